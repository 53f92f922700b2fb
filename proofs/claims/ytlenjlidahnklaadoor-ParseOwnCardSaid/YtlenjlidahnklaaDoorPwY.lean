/- The comparisons, at equal data; taken. -/
import Derived.Test.YtlenjlidahnklaaDoorPwC
import Derived.Test.YtlenjlidahnklaaDoorPwT
namespace Go.Proofs.YtlenjlidahnklaaDoor
open Go Go.Ev Edict
def C_law1 (vs : List Value) (h : H) (K : Value → H → Prop) : Prop := ∃ (u : U) (s : List UInt8), vs = [str s] ∧ s.length ≤ 9223372036854775807 ∧ LxG u h ∧ ∀ u' h', Step S0 u h u' h' → K (.bool true) h'
def C_sAtom (vs : List Value) (h : H) (K : Value → H → Prop) : Prop := ∃ (u : U) (p : List UInt8) (v w : Value) (l : List TermT) (of : Int), vs = [.agg #[str p, v, .int .i64 of], .agg #[str p, w, .int .i64 of]] ∧ IsSl u h v l ∧ IsSl u h w l ∧ ∀ u' h', Step S0 u h u' h' → K (.bool true) h'
theorem plSameAtom_ok {vs : List Value} {h : H} {K : Value → H → Prop} {KP : List PanicEntry → H → Prop} (hC : C_sAtom vs h K) : HCX Tryd.prog 36 vs h K KP := by
  obtain ⟨u, p, v, w, l, of, rfl, iv, iw, hK⟩ := hC
  obtain ⟨va, vc, rfl, m1, m2⟩ := iv.sl
  obtain ⟨wa, wc, rfl, n1, n2⟩ := iw.sl
  have hm := mlen'
  refine plSameAtom_H (fun _ _ _ _ _ => False) (fun _ _ _ _ _ h => h.elim) _ _ ?_
  have s1 := (Step.push0 S0 u h #[str p, .slice va l.length vc, .int .i64 of] 60).trans0 (Step.push0 S0 _ _ #[str p, .slice wa l.length wc, .int .i64 of] 60)
  have B1 := (Blk.new (u := u) (h := h) [str p, .slice va l.length vc, .int .i64 of] 60).pushR (c := #[str p, .slice wa l.length wc, .int .i64 of]) (t := 60)
  have B2 := Blk.new (u := ub u h.size 0) (h := h.push (.cells #[str p, .slice va l.length vc, .int .i64 of] 60)) [str p, .slice wa l.length wc, .int .i64 of] 60
  have jv := iv.mono s1.ge
  have jw := iw.mono s1.ge
  have hK' := hK _ _ s1
  obtain ⟨h1, hh1⟩ : ∃ h1, h1 = (h.push (.cells #[str p, .slice va l.length vc, .int .i64 of] 60)).push (.cells #[str p, .slice wa l.length wc, .int .i64 of] 60) := ⟨_, rfl⟩
  obtain ⟨u1, hu1⟩ : ∃ u1, u1 = ub (ub u h.size 0) (h.push (.cells #[str p, .slice va l.length vc, .int .i64 of] 60)).size 0 := ⟨_, rfl⟩
  have B2' : Blk u1 h1 (h.size + 1) [str p, .slice wa l.length wc, .int .i64 of] := by rw [hu1, hh1]; simpa using B2
  rw [← hh1, ← hu1] at B1 jv jw
  rw [← hh1] at hK'
  clear B2
  have B11 := B1.1
  have B21 := B2'.1
  simp (disch := first | omega | (simp only [e_ssz, e_psz, e_hszs, List.length_cons, List.length_nil]; try omega; done)) only [↓reduceIte, go_sem, plSameAtom_S, plSameAtom_E, ← hh1, B1.at, B1.2.1, B2'.at, B2'.2.1]
  obtain ⟨I, hI⟩ : ∃ I : Nat → Env → H → Prop, I = fun k σ h' => σ 2 = .pointer (some ⟨h.size, 0, none⟩) ∧ σ 3 = .pointer (some ⟨h.size + 1, 0, none⟩) ∧ σ 29 = .int .i64 (l.length : Nat) ∧ σ 30 = .int .i64 k ∧ k ≤ l.length ∧ h' = h1 := ⟨_, rfl⟩
  refine wpS_loop I (fun j => l.length - j) 0 (by rw [hI]; exact ⟨by simp [upd], by simp [upd], by simp [upd], by simp [upd], by omega, rfl⟩) ?_
  intro k σ h' hy
  rw [hI] at hy
  obtain ⟨e2, e3, e29, e30, hk, rfl⟩ := hy
  by_cases hlt : k < l.length
  case neg =>
    simp (disch := first | omega | (simp only [e_ssz, e_psz, e_hszs, List.length_cons, List.length_nil]; try omega; done)) only [↓reduceIte, go_sem, plSameAtom_L1, e29, e30, eq_false (show ¬ (k : Int) < (l.length : Nat) by omega)]
    exact hK'
  obtain ⟨x, hx⟩ : ∃ x, l[k]? = some x := ⟨l[k], by simp [hlt]⟩
  obtain ⟨pb, po, rfl, hpb, hpu, hpz, hpr⟩ := jv.row k x hx
  obtain ⟨qb, qo, rfl, hqb, hqu, hqz, hqr⟩ := jw.row k x hx
  rw [rep_term] at hpr hqr
  simp only [termE, sz_term, hvs_4, List.cons.injEq, and_true] at hpr hpu hpz hqr hqu hqz
  obtain ⟨p0, p1, p2, p3⟩ := hpr
  obtain ⟨q0, q1, q2, q3⟩ := hqr
  simp (disch := first | omega | (simp only [e_ssz, e_psz, e_hszs, List.length_cons, List.length_nil]; try omega; done)) only [↓reduceIte, go_sem, plSameAtom_L1, e2, e3, e29, e30, eq_true (show (k : Int) < (l.length : Nat) by omega), B1.at, B1.2.1, B2'.at, B2'.2.1, p0, p1, p2, p3, q0, q1, q2, q3]
  refine ⟨k + 1, ?_, by omega⟩
  rw [hI]
  refine ⟨?_, ?_, ?_, ?_, hlt, rfl⟩ <;> simp [upd, e2, e3, e29]
def C_sAtoms (vs : List Value) (h : H) (K : Value → H → Prop) : Prop := ∃ (u : U) (v w : Value) (l : List AtomT), vs = [v, w] ∧ IsSl u h v l ∧ IsSl u h w l ∧ ∀ u' h', Step S0 u h u' h' → K (.bool true) h'
def G_sAtoms : Ctr := fun f vs h K _ => f = 36 ∧ C_sAtom vs h K
theorem G_sAtoms_ok : GOk Tryd.prog G_sAtoms := by
  rintro f vs h K KP ⟨rfl, hC⟩; exact plSameAtom_ok hC
theorem plSameAtoms_ok {vs : List Value} {h : H} {K : Value → H → Prop} {KP : List PanicEntry → H → Prop} (hC : C_sAtoms vs h K) : HCX Tryd.prog 19 vs h K KP := by
  obtain ⟨u, v, w, l, rfl, iv, iw, hK⟩ := hC
  obtain ⟨va, vc, rfl, m1, m2⟩ := iv.sl
  obtain ⟨wa, wc, rfl, n1, n2⟩ := iw.sl
  have hm := mlen'
  refine plSameAtoms_H G_sAtoms G_sAtoms_ok _ _ ?_
  simp (disch := first | omega | (simp only [e_ssz, e_psz, e_hszs, List.length_cons, List.length_nil]; try omega; done)) only [↓reduceIte, go_sem, plSameAtoms_S, plSameAtoms_E]
  obtain ⟨I, hI⟩ : ∃ I : Nat → Env → H → Prop, I = fun k σ h' => ∃ u', σ 0 = .slice va l.length vc ∧ σ 1 = .slice wa l.length wc ∧ σ 12 = .int .i64 (l.length : Nat) ∧ σ 13 = .int .i64 k ∧ k ≤ l.length ∧ Step S0 u h u' h' := ⟨_, rfl⟩
  refine wpS_loop I (fun j => l.length - j) 0 (by rw [hI]; exact ⟨u, by simp [upd], by simp [upd], by simp [upd], by simp [upd], by omega, Step.refl _ _ _⟩) ?_
  intro k σ h' hy
  rw [hI] at hy
  obtain ⟨u', e0, e1, e12, e13, hk, st⟩ := hy
  by_cases hlt : k < l.length
  case neg =>
    simp (disch := first | omega | (simp only [e_ssz, e_psz, e_hszs, List.length_cons, List.length_nil]; try omega; done)) only [↓reduceIte, go_sem, plSameAtoms_L1, e12, e13, eq_false (show ¬ (k : Int) < (l.length : Nat) by omega)]
    exact hK _ _ st
  obtain ⟨x, hx⟩ : ∃ x, l[k]? = some x := ⟨l[k], by simp [hlt]⟩
  have jv := iv.mono st.ge
  have jw := iw.mono st.ge
  obtain ⟨pb, po, rfl, hpb, hpu, hpz, hpr⟩ := jv.row k x hx
  obtain ⟨qb, qo, rfl, hqb, hqu, hqz, hqr⟩ := jw.row k x hx
  rw [rep_atom] at hpr hqr
  obtain ⟨xv, hpr, ixv⟩ := hpr
  obtain ⟨xw, hqr, ixw⟩ := hqr
  simp only [sz_atom, hvs_3, List.cons.injEq, and_true] at hpr hpu hpz hqr hqu hqz
  obtain ⟨p0, p1, p2⟩ := hpr
  obtain ⟨q0, q1, q2⟩ := hqr
  obtain ⟨xa, xc, rfl, -, -⟩ := ixv.sl
  obtain ⟨ya, yc, rfl, -, -⟩ := ixw.sl
  simp (disch := first | omega | (simp only [e_ssz, e_psz, e_hszs, List.length_cons, List.length_nil]; try omega; done)) only [↓reduceIte, go_sem, plSameAtoms_L1, e0, e1, e12, e13, eq_true (show (k : Int) < (l.length : Nat) by omega), p0, p1, p2, q0, q1, q2]
  refine effS_call ⟨rfl, u', x.1, _, _, x.2.1, x.2.2, rfl, ixv, ixw, fun u5 h5 s5 => ⟨by simp (disch := first | omega | (simp only [e_ssz, e_psz, e_hszs, List.length_cons, List.length_nil]; try omega; done)) only [go_sem], ?_⟩⟩
  simp (disch := first | omega | (simp only [e_ssz, e_psz, e_hszs, List.length_cons, List.length_nil]; try omega; done)) only [↓reduceIte, go_sem, e13]
  refine ⟨k + 1, ?_, by omega⟩
  rw [hI]
  refine ⟨u5, ?_, ?_, ?_, ?_, hlt, st.trans0 s5⟩ <;> simp [upd, e0, e1, e12]
end Go.Proofs.YtlenjlidahnklaaDoor
namespace Go.Proofs.YtlenjlidahnklaaDoor
open Go Go.Ev Edict
theorem two_new {u : U} {h : H} (c1 c2 : List Value) (t1 t2 : TypeId) : ∃ u2, Step S0 u h u2 ((h.push (.cells c1.toArray t1)).push (.cells c2.toArray t2)) ∧ Blk u2 ((h.push (.cells c1.toArray t1)).push (.cells c2.toArray t2)) h.size c1 ∧ Blk u2 ((h.push (.cells c1.toArray t1)).push (.cells c2.toArray t2)) (h.size + 1) c2 :=
  ⟨_, (Step.push0 S0 u h c1.toArray t1).trans0 (Step.push0 S0 _ _ c2.toArray t2), (Blk.new c1 t1).pushR, by have := Blk.new (u := ub u h.size 0) (h := h.push (.cells c1.toArray t1)) c2 t2; simpa using this⟩
def C_sBody (vs : List Value) (h : H) (K : Value → H → Prop) : Prop := ∃ (u : U) (v w : Value) (l : List LitT), vs = [v, w] ∧ IsSl u h v l ∧ IsSl u h w l ∧ ∀ u' h', Step S0 u h u' h' → K (.bool true) h'
def G_sBody : Ctr := fun f vs h K _ => f = 36 ∧ C_sAtom vs h K
theorem G_sBody_ok : GOk Tryd.prog G_sBody := by
  rintro f vs h K KP ⟨rfl, hC⟩; exact plSameAtom_ok hC
theorem plSameBody_ok {vs : List Value} {h : H} {K : Value → H → Prop} {KP : List PanicEntry → H → Prop} (hC : C_sBody vs h K) : HCX Tryd.prog 18 vs h K KP := by
  obtain ⟨u, v, w, l, rfl, iv, iw, hK⟩ := hC
  obtain ⟨va, vc, rfl, m1, m2⟩ := iv.sl
  obtain ⟨wa, wc, rfl, n1, n2⟩ := iw.sl
  have hm := mlen'
  refine plSameBody_H G_sBody G_sBody_ok _ _ ?_
  simp (disch := first | omega | (simp only [e_ssz, e_psz, e_hszs, List.length_cons, List.length_nil]; try omega; done)) only [↓reduceIte, go_sem, plSameBody_S, plSameBody_E]
  obtain ⟨I, hI⟩ : ∃ I : Nat → Env → H → Prop, I = fun k σ h' => ∃ u', σ 0 = .slice va l.length vc ∧ σ 1 = .slice wa l.length wc ∧ σ 14 = .int .i64 (l.length : Nat) ∧ σ 15 = .int .i64 k ∧ k ≤ l.length ∧ Step S0 u h u' h' := ⟨_, rfl⟩
  refine wpS_loop I (fun j => l.length - j) 0 (by rw [hI]; exact ⟨u, by simp [upd], by simp [upd], by simp [upd], by simp [upd], by omega, Step.refl _ _ _⟩) ?_
  intro k σ h' hy
  rw [hI] at hy
  obtain ⟨u', e0, e1, e14, e15, hk, st⟩ := hy
  by_cases hlt : k < l.length
  case neg =>
    simp (disch := first | omega | (simp only [e_ssz, e_psz, e_hszs, List.length_cons, List.length_nil]; try omega; done)) only [↓reduceIte, go_sem, plSameBody_L1, e14, e15, eq_false (show ¬ (k : Int) < (l.length : Nat) by omega)]
    exact hK _ _ st
  obtain ⟨x, hx⟩ : ∃ x, l[k]? = some x := ⟨l[k], by simp [hlt]⟩
  have jv := iv.mono st.ge
  have jw := iw.mono st.ge
  obtain ⟨pb, po, rfl, hpb, hpu, hpz, hpr⟩ := jv.row k x hx
  obtain ⟨qb, qo, rfl, hqb, hqu, hqz, hqr⟩ := jw.row k x hx
  rw [rep_lit] at hpr hqr
  obtain ⟨xv, hpr, ixv⟩ := hpr
  obtain ⟨xw, hqr, ixw⟩ := hqr
  obtain ⟨xa, xc, rfl, -, -⟩ := ixv.sl
  obtain ⟨ya, yc, rfl, -, -⟩ := ixw.sl
  obtain ⟨k0, ⟨pr, ar, ao⟩, op, ⟨l1, l2, l3, l4⟩, ⟨r1, r2, r3, r4⟩, of⟩ := x
  simp only [litE, sz_lit, hvs_14, List.cons.injEq, and_true] at hpr hpu hpz hqr hqu hqz ixv ixw
  obtain ⟨p0, p1, p2, p3, p4, p5, p6, p7, p8, p9, p10, p11, p12, p13⟩ := hpr
  obtain ⟨q0, q1, q2, q3, q4, q5, q6, q7, q8, q9, q10, q11, q12, q13⟩ := hqr
  simp (disch := first | omega | (simp only [e_ssz, e_psz, e_hszs, List.length_cons, List.length_nil]; try omega; done)) only [↓reduceIte, go_sem, plSameBody_L1, e14, e15, eq_true (show (k : Int) < (l.length : Nat) by omega)]
  refine w_join (fun σ' h2 => keepE σ σ' [0, 1, 14, 15] ∧ ∃ u2 b6 b7, Step S0 u' h' u2 h2 ∧ σ' 6 = .pointer (some ⟨b6, 0, none⟩) ∧ σ' 7 = .pointer (some ⟨b7, 0, none⟩) ∧ Blk u2 h2 b6 [.int .i64 k0, str pr, .slice xa ar.length xc, .int .i64 ao, .int .i64 op, .int .i64 l1, .int .i64 l2, str l3, .int .i64 l4, .int .i64 r1, .int .i64 r2, str r3, .int .i64 r4, .int .i64 of] ∧ Blk u2 h2 b7 [.int .i64 k0, str pr, .slice ya ar.length yc, .int .i64 ao, .int .i64 op, .int .i64 l1, .int .i64 l2, str l3, .int .i64 l4, .int .i64 r1, .int .i64 r2, str r3, .int .i64 r4, .int .i64 of]) ?_ ?_
  · simp (disch := first | omega | (simp only [e_ssz, e_psz, e_hszs, List.length_cons, List.length_nil]; try omega; done)) only [↓reduceIte, go_sem, w_both, e0, e1, e14, e15, hlt, p0, p1, p2, p3, p4, p5, p6, p7, p8, p9, p10, p11, p12, p13, q0, q1, q2, q3, q4, q5, q6, q7, q8, q9, q10, q11, q12, q13]
    refine ⟨?_, ?_⟩
    · exact two_new _ _ _ _
    · obtain ⟨u2, s, a, b⟩ := two_new (u := u') (h := h') [.int .i64 k0, str pr, .slice ya ar.length yc, .int .i64 ao, .int .i64 op, .int .i64 l1, .int .i64 l2, str l3, .int .i64 l4, .int .i64 r1, .int .i64 r2, str r3, .int .i64 r4, .int .i64 of] [.int .i64 k0, str pr, .slice xa ar.length xc, .int .i64 ao, .int .i64 op, .int .i64 l1, .int .i64 l2, str l3, .int .i64 l4, .int .i64 r1, .int .i64 r2, str r3, .int .i64 r4, .int .i64 of] 74 74
      exact ⟨u2, s, b, a⟩
  · rintro σ' h2 ⟨hkE, u2, b6, b7, s2, e6, e7, A6, A7⟩
    simp (disch := first | omega | (simp only [e_ssz, e_psz, e_hszs, List.length_cons, List.length_nil]; try omega; done)) only [go_sem, e0, e1, e14, e15] at hkE
    obtain ⟨k0, k1, k14, k15⟩ := hkE
    have A61 := A6.1
    have A71 := A7.1
    simp (disch := first | omega | (simp only [e_ssz, e_psz, e_hszs, List.length_cons, List.length_nil]; try omega; done)) only [↓reduceIte, go_sem, e6, e7, A6.at, A6.2.1, A7.at, A7.2.1]
    refine effS_call ⟨rfl, u2, pr, _, _, ar, ao, rfl, ixv.mono s2.ge, ixw.mono s2.ge, fun u5 h5 s5 => ⟨by simp (disch := first | omega | (simp only [e_ssz, e_psz, e_hszs, List.length_cons, List.length_nil]; try omega; done)) only [go_sem], ?_⟩⟩
    simp (disch := first | omega | (simp only [e_ssz, e_psz, e_hszs, List.length_cons, List.length_nil]; try omega; done)) only [↓reduceIte, go_sem, k15]
    refine ⟨k + 1, ?_, by omega⟩
    rw [hI]
    refine ⟨u5, ?_, ?_, ?_, ?_, hlt, (st.trans0 s2).trans0 s5⟩ <;> simp [upd, k0, k1, k14]
def C_sClauses (vs : List Value) (h : H) (K : Value → H → Prop) : Prop := ∃ (u : U) (v w : Value) (l : List ClauseT), vs = [v, w] ∧ IsSl u h v l ∧ IsSl u h w l ∧ ∀ u' h', Step S0 u h u' h' → K (.bool true) h'
def G_sClauses : Ctr := fun f vs h K _ => (f = 36 ∧ C_sAtom vs h K) ∨ (f = 18 ∧ C_sBody vs h K)
theorem G_sClauses_ok : GOk Tryd.prog G_sClauses := by
  rintro f vs h K KP (⟨rfl, hC⟩ | ⟨rfl, hC⟩)
  · exact plSameAtom_ok hC
  · exact plSameBody_ok hC
theorem plSameClauses_ok {vs : List Value} {h : H} {K : Value → H → Prop} {KP : List PanicEntry → H → Prop} (hC : C_sClauses vs h K) : HCX Tryd.prog 17 vs h K KP := by
  obtain ⟨u, v, w, l, rfl, iv, iw, hK⟩ := hC
  obtain ⟨va, vc, rfl, m1, m2⟩ := iv.sl
  obtain ⟨wa, wc, rfl, n1, n2⟩ := iw.sl
  have hm := mlen'
  refine plSameClauses_H G_sClauses G_sClauses_ok _ _ ?_
  simp (disch := first | omega | (simp only [e_ssz, e_psz, e_hszs, List.length_cons, List.length_nil]; try omega; done)) only [↓reduceIte, go_sem, plSameClauses_S, plSameClauses_E]
  obtain ⟨I, hI⟩ : ∃ I : Nat → Env → H → Prop, I = fun k σ h' => ∃ u', σ 0 = .slice va l.length vc ∧ σ 1 = .slice wa l.length wc ∧ σ 12 = .int .i64 (l.length : Nat) ∧ σ 13 = .int .i64 k ∧ k ≤ l.length ∧ Step S0 u h u' h' := ⟨_, rfl⟩
  refine wpS_loop I (fun j => l.length - j) 0 (by rw [hI]; exact ⟨u, by simp [upd], by simp [upd], by simp [upd], by simp [upd], by omega, Step.refl _ _ _⟩) ?_
  intro k σ h' hy
  rw [hI] at hy
  obtain ⟨u', e0, e1, e12, e13, hk, st⟩ := hy
  by_cases hlt : k < l.length
  case neg =>
    simp (disch := first | omega | (simp only [e_ssz, e_psz, e_hszs, List.length_cons, List.length_nil]; try omega; done)) only [↓reduceIte, go_sem, plSameClauses_L1, e12, e13, eq_false (show ¬ (k : Int) < (l.length : Nat) by omega)]
    exact hK _ _ st
  obtain ⟨x, hx⟩ : ∃ x, l[k]? = some x := ⟨l[k], by simp [hlt]⟩
  have jv := iv.mono st.ge
  have jw := iw.mono st.ge
  obtain ⟨pb, po, rfl, hpb, hpu, hpz, hpr⟩ := jv.row k x hx
  obtain ⟨qb, qo, rfl, hqb, hqu, hqz, hqr⟩ := jw.row k x hx
  rw [rep_clause] at hpr hqr
  obtain ⟨xv, xb, hpr, ixv, ixb⟩ := hpr
  obtain ⟨xw, yb, hqr, ixw, iyb⟩ := hqr
  simp only [sz_clause, hvs_4, List.cons.injEq, and_true] at hpr hpu hpz hqr hqu hqz
  obtain ⟨p0, p1, p2, p3⟩ := hpr
  obtain ⟨q0, q1, q2, q3⟩ := hqr
  obtain ⟨xa, xc, rfl, -, -⟩ := ixv.sl
  obtain ⟨ya, yc, rfl, -, -⟩ := ixw.sl
  obtain ⟨za, zc, rfl, -, -⟩ := ixb.sl
  obtain ⟨ta, tc, rfl, -, -⟩ := iyb.sl
  simp (disch := first | omega | (simp only [e_ssz, e_psz, e_hszs, List.length_cons, List.length_nil]; try omega; done)) only [↓reduceIte, go_sem, plSameClauses_L1, e0, e1, e12, e13, eq_true (show (k : Int) < (l.length : Nat) by omega), p0, p1, p2, q0, q1, q2]
  refine effS_call (.inl ⟨rfl, u', x.1.1, _, _, x.1.2.1, x.1.2.2, rfl, ixv, ixw, fun u5 h5 s5 => ⟨by simp (disch := first | omega | (simp only [e_ssz, e_psz, e_hszs, List.length_cons, List.length_nil]; try omega; done)) only [go_sem], ?_⟩⟩)
  have jv5 := jv.mono s5.ge
  have jw5 := jw.mono s5.ge
  have g3 : hv h5 pb (po + k * 4 + 3) = .slice za x.2.length zc := by rw [s5.ge.cl pb hpb _ (by omega), p3]
  have g3' : hv h5 qb (qo + k * 4 + 3) = .slice ta x.2.length tc := by rw [s5.ge.cl qb hqb _ (by omega), q3]
  have gz : hsz h5 pb = hsz h' pb := (s5.ge.hs pb hpb).1
  have gz' : hsz h5 qb = hsz h' qb := (s5.ge.hs qb hqb).1
  simp (disch := first | omega | (simp only [e_ssz, e_psz, e_hszs, List.length_cons, List.length_nil]; try omega; done)) only [↓reduceIte, go_sem, e0, e1, hlt, gz, gz', g3, g3']
  refine effS_call (.inr ⟨rfl, u5, _, _, x.2, rfl, ixb.mono s5.ge, iyb.mono s5.ge, fun u6 h6 s6 => ⟨by simp (disch := first | omega | (simp only [e_ssz, e_psz, e_hszs, List.length_cons, List.length_nil]; try omega; done)) only [go_sem], ?_⟩⟩)
  simp (disch := first | omega | (simp only [e_ssz, e_psz, e_hszs, List.length_cons, List.length_nil]; try omega; done)) only [↓reduceIte, go_sem, e13]
  refine ⟨k + 1, ?_, by omega⟩
  rw [hI]
  refine ⟨u6, ?_, ?_, ?_, ?_, hlt, (st.trans0 s5).trans0 s6⟩ <;> simp [upd, e0, e1, e12]
end Go.Proofs.YtlenjlidahnklaaDoor
namespace Edict
def resProg (src : List UInt8) : List ClauseT × Flt := match parseF (fun b l => progD b [] l) src with | .error e => ([], e) | .ok a => (a, (0, 0))
def takenT : List UInt8 := [112, 40, 97, 41, 58, 45, 88, 60, 49, 46]
theorem taken_scan : scanF takenT = ([(1, [112], 0, 0, 0, 1), (5, [], 0, 0, 1, 2), (1, [97], 0, 0, 2, 3), (6, [], 0, 0, 3, 4), (9, [], 0, 0, 4, 6), (2, [88], 0, 0, 6, 7), (11, [], 0, 3, 7, 8), (3, [], 1, 0, 8, 9), (8, [], 0, 0, 9, 10), (0, [], 0, 0, 10, 10)], 0, 0) := by kernel_rfl
def takenL : LitT := (3, noAtom, 3, (4, 0, [88], 6), (1, 1, [], 8), 6)
def takenC : ClauseT := (([112], [(2, 0, [97], 2)], 0), [takenL])
theorem taken_prog : parseF (fun b l => progD b [] l) takenT = .ok [takenC] := by
  unfold parseF badF
  rw [if_neg (by decide), taken_scan]
  show progD (0, 0) [] _ = _
  have hl : litD (0, 0) [(2, [88], 0, 0, 6, 7), (11, [], 0, 3, 7, 8), (3, [], 1, 0, 8, 9), (8, [], 0, 0, 9, 10), (0, [], 0, 0, 10, 10)] = .ok (takenL, [(8, [], 0, 0, 9, 10), (0, [], 0, 0, 10, 10)]) := rfl
  have hb : bodyD (0, 0) [] [(2, [88], 0, 0, 6, 7), (11, [], 0, 3, 7, 8), (3, [], 1, 0, 8, 9), (8, [], 0, 0, 9, 10), (0, [], 0, 0, 10, 10)] = .ok ([takenL], [(0, [], 0, 0, 10, 10)]) := by
    rw [bodyD_on (by simp) hl]; rfl
  have hc : clauseD (0, 0) [(1, [112], 0, 0, 0, 1), (5, [], 0, 0, 1, 2), (1, [97], 0, 0, 2, 3), (6, [], 0, 0, 3, 4), (9, [], 0, 0, 4, 6), (2, [88], 0, 0, 6, 7), (11, [], 0, 3, 7, 8), (3, [], 1, 0, 8, 9), (8, [], 0, 0, 9, 10), (0, [], 0, 0, 10, 10)] = .ok (takenC, [(0, [], 0, 0, 10, 10)]) := by
    rw [clauseD_ok (a := ([112], [(2, 0, [97], 2)], 0)) (q := [(9, [], 0, 0, 4, 6), (2, [88], 0, 0, 6, 7), (11, [], 0, 3, 7, 8), (3, [], 1, 0, 8, 9), (8, [], 0, 0, 9, 10), (0, [], 0, 0, 10, 10)]) rfl]
    exact restD_9O rfl hb
  rw [progD_on (by decide) (by simp) hc, progD_end rfl]
  rfl
def groundF (cs : List ClauseT) : Bool := cs.all fun c => c.2.isEmpty && c.1.2.1.all fun t => !decide (t.1 = 4)
end Edict
namespace Go.Proofs.YtlenjlidahnklaaDoor
open Go Go.Ev Edict
def C_sFact (vs : List Value) (h : H) (K : Value → H → Prop) : Prop := ∃ (u : U) (p : List UInt8) (v w : Value) (l : List ConstT), vs = [.agg #[str p, v], .agg #[str p, w]] ∧ IsSl u h v l ∧ IsSl u h w l ∧ ∀ u' h', Step S0 u h u' h' → K (.bool true) h'
theorem plSameFact_ok {vs : List Value} {h : H} {K : Value → H → Prop} {KP : List PanicEntry → H → Prop} (hC : C_sFact vs h K) : HCX Tryd.prog 20 vs h K KP := by
  obtain ⟨u, p, v, w, l, rfl, iv, iw, hK⟩ := hC
  obtain ⟨va, vc, rfl, m1, m2⟩ := iv.sl
  obtain ⟨wa, wc, rfl, n1, n2⟩ := iw.sl
  have hm := mlen'
  refine plSameFact_H (fun _ _ _ _ _ => False) (fun _ _ _ _ _ h => h.elim) _ _ ?_
  have s1 := (Step.push0 S0 u h #[str p, .slice va l.length vc] 32).trans0 (Step.push0 S0 _ _ #[str p, .slice wa l.length wc] 32)
  have B1 := (Blk.new (u := u) (h := h) [str p, .slice va l.length vc] 32).pushR (c := #[str p, .slice wa l.length wc]) (t := 32)
  have B2 := Blk.new (u := ub u h.size 0) (h := h.push (.cells #[str p, .slice va l.length vc] 32)) [str p, .slice wa l.length wc] 32
  have jv := iv.mono s1.ge
  have jw := iw.mono s1.ge
  have hK' := hK _ _ s1
  obtain ⟨h1, hh1⟩ : ∃ h1, h1 = (h.push (.cells #[str p, .slice va l.length vc] 32)).push (.cells #[str p, .slice wa l.length wc] 32) := ⟨_, rfl⟩
  obtain ⟨u1, hu1⟩ : ∃ u1, u1 = ub (ub u h.size 0) (h.push (.cells #[str p, .slice va l.length vc] 32)).size 0 := ⟨_, rfl⟩
  have B2' : Blk u1 h1 (h.size + 1) [str p, .slice wa l.length wc] := by rw [hu1, hh1]; simpa using B2
  rw [← hh1, ← hu1] at B1 jv jw
  rw [← hh1] at hK'
  clear B2
  have B11 := B1.1
  have B21 := B2'.1
  simp (disch := first | omega | (simp only [e_ssz, e_psz, e_hszs, List.length_cons, List.length_nil]; try omega; done)) only [↓reduceIte, go_sem, plSameFact_S, plSameFact_E, ← hh1, B1.at, B1.2.1, B2'.at, B2'.2.1]
  obtain ⟨I, hI⟩ : ∃ I : Nat → Env → H → Prop, I = fun k σ h' => σ 2 = .pointer (some ⟨h.size, 0, none⟩) ∧ σ 3 = .pointer (some ⟨h.size + 1, 0, none⟩) ∧ σ 22 = .int .i64 (l.length : Nat) ∧ σ 23 = .int .i64 k ∧ k ≤ l.length ∧ h' = h1 := ⟨_, rfl⟩
  refine wpS_loop I (fun j => l.length - j) 0 (by rw [hI]; exact ⟨by simp [upd], by simp [upd], by simp [upd], by simp [upd], by omega, rfl⟩) ?_
  intro k σ h' hy
  rw [hI] at hy
  obtain ⟨e2, e3, e22, e23, hk, rfl⟩ := hy
  by_cases hlt : k < l.length
  case neg =>
    simp (disch := first | omega | (simp only [e_ssz, e_psz, e_hszs, List.length_cons, List.length_nil]; try omega; done)) only [↓reduceIte, go_sem, plSameFact_L1, e22, e23, eq_false (show ¬ (k : Int) < (l.length : Nat) by omega)]
    exact hK'
  obtain ⟨x, hx⟩ : ∃ x, l[k]? = some x := ⟨l[k], by simp [hlt]⟩
  obtain ⟨pb, po, rfl, hpb, hpu, hpz, hpr⟩ := jv.row k x hx
  obtain ⟨qb, qo, rfl, hqb, hqu, hqz, hqr⟩ := jw.row k x hx
  rw [rep_const] at hpr hqr
  simp only [sz_const, hvs_3, List.cons.injEq, and_true] at hpr hpu hpz hqr hqu hqz
  obtain ⟨p0, p1, p2⟩ := hpr
  obtain ⟨q0, q1, q2⟩ := hqr
  simp (disch := first | omega | (simp only [e_ssz, e_psz, e_hszs, List.length_cons, List.length_nil]; try omega; done)) only [↓reduceIte, go_sem, plSameFact_L1, e2, e3, e22, e23, eq_true (show (k : Int) < (l.length : Nat) by omega), B1.at, B1.2.1, B2'.at, B2'.2.1, p0, p1, p2, q0, q1, q2]
  refine ⟨k + 1, ?_, by omega⟩
  rw [hI]
  refine ⟨?_, ?_, ?_, ?_, hlt, rfl⟩ <;> simp [upd, e2, e3, e22]
def C_pProgU (vs : List Value) (h : H) (K : Value → H → Prop) : Prop := ∃ (u : U) (src : List UInt8), vs = [str src] ∧ src.length ≤ 9223372036854775807 ∧ LxG u h ∧ ∀ u' h' w, Step S0 u h u' h' → IsSl u' h' w (resProg src).1 → K (.tuple #[.agg #[w], fltV (resProg src).2]) h'
theorem psProgU_ok {vs : List Value} {h : H} {K : Value → H → Prop} {KP : List PanicEntry → H → Prop} (hC : C_pProgU vs h K) : HCX Tryd.prog 11 vs h K KP := by
  obtain ⟨u, src, rfl, hl, hG, hK⟩ := hC
  refine psProgram_ok ⟨u, src, rfl, hl, hG, fun e he u' h' s => ?_, fun a ha u' h' w s o => ?_⟩
  · have hr : resProg src = ([], e) := by unfold resProg; rw [he]
    rw [hr] at hK
    exact hK u' h' _ s (.nil _ _)
  · have hr : resProg src = (a.map pC, (0, 0)) := by unfold resProg; rw [ha]
    rw [hr] at hK
    exact hK u' h' _ s (isSl_map (f := pC) rfl rep_pC o.isSl)
def C_taken (vs : List Value) (h : H) (K : Value → H → Prop) : Prop := ∃ (u : U), vs = [] ∧ LxG u h ∧ ∀ u' h', Step S0 u h u' h' → K (.bool true) h'
def G_taken : Ctr := fun f vs h K _ => f = 11 ∧ C_pProgU vs h K
theorem G_taken_ok : GOk Tryd.prog G_taken := by
  rintro f vs h K KP ⟨rfl, hC⟩; exact psProgU_ok hC
theorem plTaken_ok {vs : List Value} {h : H} {K : Value → H → Prop} {KP : List PanicEntry → H → Prop} (hC : C_taken vs h K) : HCX Tryd.prog 10 vs h K KP := by
  obtain ⟨u, rfl, hG, hK⟩ := hC
  refine plTaken_H G_taken G_taken_ok ?_
  simp (disch := first | omega | (simp only [e_ssz, e_psz, e_hszs, List.length_cons, List.length_nil]; try omega; done)) only [go_sem, plTaken_S, plTaken_E]
  refine effS_call ⟨rfl, u, takenT, rfl, by decide, hG, fun u1 h1 w1 s1 o1 => ⟨by simp (disch := first | omega | (simp only [e_ssz, e_psz, e_hszs, List.length_cons, List.length_nil]; try omega; done)) only [go_sem], ?_⟩⟩
  have hr : resProg takenT = ([takenC], (0, 0)) := by unfold resProg; rw [taken_prog]
  rw [hr] at o1 ⊢
  obtain ⟨a1, c1, rfl, m1, m2⟩ := o1.sl
  simp only [fltV, List.length_cons, List.length_nil, Nat.zero_add] at o1 ⊢
  obtain ⟨u2, s2, B1, B2⟩ := two_new (u := u1) (h := h1) [.slice a1 1 c1] [.int .i64 0, .int .i64 0, .int .i64 0] 24 27
  obtain ⟨h2, hh2⟩ : ∃ h2, h2 = (h1.push (.cells #[.slice a1 1 c1] 24)).push (.cells #[.int .i64 0, .int .i64 0, .int .i64 0] 27) := ⟨_, rfl⟩
  rw [← hh2] at s2 B1 B2
  have B21 := B2.1
  have C2 := B2.sets (l := [.int .i64 0, .int .i64 0, .int .i64 0]) rfl
  have s3 := Step.sets (S := fun b => b = h1.size + 1) u2 h2 (b := h1.size + 1) (o := 0) [.int .i64 0, .int .i64 0, .int .i64 0] rfl (by rw [B2.2.2.2.1]; exact Nat.zero_le _) (by rw [B2.2.1]; exact Nat.le_refl _)
  obtain ⟨h3, hh3⟩ : ∃ h3, h3 = hsets h2 (h1.size + 1) 0 [.int .i64 0, .int .i64 0, .int .i64 0] := ⟨_, rfl⟩
  rw [← hh3] at C2 s3
  have C1 := B1.step s3 (by omega)
  have i2 := (o1.mono s2.ge).mono s3.ge
  obtain ⟨pb, po, rfl, hpb, hpu, hpz, hpr⟩ := i2.row 0 takenC rfl
  rw [rep_clause] at hpr
  obtain ⟨xv, xb, hpr, ixv, ixb⟩ := hpr
  obtain ⟨va, vc, rfl, -, -⟩ := ixv.sl
  obtain ⟨ba, bc, rfl, -, -⟩ := ixb.sl
  obtain ⟨vb, vo, rfl, hvb, hvu, hvz, hvr⟩ := ixv.row 0 (2, 0, [97], 2) rfl
  obtain ⟨lb, lo, rfl, hlb, hlu, hlz, hlr⟩ := ixb.row 0 takenL rfl
  rw [rep_term] at hvr
  rw [rep_lit] at hlr
  obtain ⟨lw, hlr, -⟩ := hlr
  simp only [takenC, takenL, termE, litE, sz_clause, sz_term, sz_lit, hvs_4, hvs_14, List.cons.injEq, and_true, Nat.zero_mul, Nat.add_zero, List.length_cons, List.length_nil, Nat.zero_add] at hpr hpu hpz hvr hvu hvz hlr hlu hlz
  obtain ⟨p0, p1, p2, p3⟩ := hpr
  obtain ⟨v0, v1, v2, v3⟩ := hvr
  obtain ⟨l0, l1, l2, l3, l4, l5, l6, l7, l8, l9, l10, l11, l12, l13⟩ := hlr
  have B11 := C1.1
  have C21 := C2.1
  simp (disch := first | omega | (simp only [e_ssz, e_psz, e_hszs, List.length_cons, List.length_nil]; try omega; done)) only [↓reduceIte, go_sem, ← hh2, B2.2.1, B2.2.2.1, ← hh3, C1.at, C1.2.1, C2.at, C2.2.1, p0, p1, p3, v2, l10]
  exact hK _ _ ((s1.trans0 s2).trans s3 (fun b hb q => by have := s1.ge.sz; omega))
end Go.Proofs.YtlenjlidahnklaaDoor
