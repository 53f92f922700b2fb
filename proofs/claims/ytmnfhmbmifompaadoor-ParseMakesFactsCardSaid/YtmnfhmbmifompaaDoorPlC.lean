/- The laws' comparisons, at equal data: sameBody, sameClauses. -/
import Derived.Test.YtmnfhmbmifompaaDoorPlY
import Derived.Test.YtmnfhmbmifompaaDoorPsB
namespace Go.Proofs.YtmnfhmbmifompaaDoor
open Go Go.Ev Edict
theorem two_new {u : U} {h : H} (c1 c2 : List Value) (t1 t2 : TypeId) : ∃ u2, Step S0 u h u2 ((h.push (.cells c1.toArray t1)).push (.cells c2.toArray t2)) ∧ Blk u2 ((h.push (.cells c1.toArray t1)).push (.cells c2.toArray t2)) h.size c1 ∧ Blk u2 ((h.push (.cells c1.toArray t1)).push (.cells c2.toArray t2)) (h.size + 1) c2 :=
  ⟨_, (Step.push0 S0 u h c1.toArray t1).trans0 (Step.push0 S0 _ _ c2.toArray t2), (Blk.new c1 t1).pushR, by have := Blk.new (u := ub u h.size 0) (h := h.push (.cells c1.toArray t1)) c2 t2; simpa using this⟩
def C_sBody (vs : List Value) (h : H) (K : Value → H → Prop) : Prop := ∃ (u : U) (v w : Value) (l : List LitT), vs = [v, w] ∧ IsSl u h v l ∧ IsSl u h w l ∧ ∀ u' h', Step S0 u h u' h' → K (.bool true) h'
def G_sBody : Ctr := fun f vs h K _ => f = 41 ∧ C_sAtom vs h K
theorem G_sBody_ok : GOk Tryd.prog G_sBody := by
  rintro f vs h K KP ⟨rfl, hC⟩; exact plSameAtom_ok hC
theorem plSameBody_ok {vs : List Value} {h : H} {K : Value → H → Prop} {KP : List PanicEntry → H → Prop} (hC : C_sBody vs h K) : HCX Tryd.prog 37 vs h K KP := by
  obtain ⟨u, v, w, l, rfl, iv, iw, hK⟩ := hC
  obtain ⟨va, vc, rfl, m1, m2⟩ := iv.sl
  obtain ⟨wa, wc, rfl, n1, n2⟩ := iw.sl
  have hm := mlen'
  refine plSameBody_H G_sBody G_sBody_ok _ _ ?_
  simp (disch := first | omega | (simp only [e_ssz, e_psz, e_hszs, List.length_cons, List.length_nil]; try omega; done)) only [↓reduceIte, go_sem, plSameBody_S, plSameBody_E]
  obtain ⟨I, hI⟩ : ∃ I : Nat → Env → H → Prop, I = fun k σ h' => ∃ u', σ 0 = .slice va l.length vc ∧ σ 1 = .slice wa l.length wc ∧ σ 14 = .int .i64 (l.length : Nat) ∧ σ 15 = .int .i64 k ∧ k ≤ l.length ∧ Step S0 u h u' h' := ⟨_, rfl⟩
  refine wpS_loop I (fun j => l.length - j) 0 (by rw [hI]; exact ⟨u, by simp [upd], by simp [upd], by simp [upd], by simp [upd], by omega, Step.refl _ _ _⟩) ?_
  intro k σ h' hy
  rw [hI] at hy
  obtain ⟨u', e0, e1, e14, e15, hk, st⟩ := hy
  by_cases hlt : k < l.length
  case neg =>
    simp (disch := first | omega | (simp only [e_ssz, e_psz, e_hszs, List.length_cons, List.length_nil]; try omega; done)) only [↓reduceIte, go_sem, plSameBody_L1, e14, e15, eq_false (show ¬ (k : Int) < (l.length : Nat) by omega)]
    exact hK _ _ st
  obtain ⟨x, hx⟩ : ∃ x, l[k]? = some x := ⟨l[k], by simp [hlt]⟩
  have jv := iv.mono st.ge
  have jw := iw.mono st.ge
  obtain ⟨pb, po, rfl, hpb, hpu, hpz, hpr⟩ := jv.row k x hx
  obtain ⟨qb, qo, rfl, hqb, hqu, hqz, hqr⟩ := jw.row k x hx
  rw [rep_lit] at hpr hqr
  obtain ⟨xv, hpr, ixv⟩ := hpr
  obtain ⟨xw, hqr, ixw⟩ := hqr
  obtain ⟨xa, xc, rfl, -, -⟩ := ixv.sl
  obtain ⟨ya, yc, rfl, -, -⟩ := ixw.sl
  obtain ⟨k0, ⟨pr, ar, ao⟩, op, ⟨l1, l2, l3, l4⟩, ⟨r1, r2, r3, r4⟩, of⟩ := x
  simp only [litE, sz_lit, hvs_14, List.cons.injEq, and_true] at hpr hpu hpz hqr hqu hqz ixv ixw
  obtain ⟨p0, p1, p2, p3, p4, p5, p6, p7, p8, p9, p10, p11, p12, p13⟩ := hpr
  obtain ⟨q0, q1, q2, q3, q4, q5, q6, q7, q8, q9, q10, q11, q12, q13⟩ := hqr
  simp (disch := first | omega | (simp only [e_ssz, e_psz, e_hszs, List.length_cons, List.length_nil]; try omega; done)) only [↓reduceIte, go_sem, plSameBody_L1, e14, e15, eq_true (show (k : Int) < (l.length : Nat) by omega)]
  refine w_join (fun σ' h2 => keepE σ σ' [0, 1, 14, 15] ∧ ∃ u2 b6 b7, Step S0 u' h' u2 h2 ∧ σ' 6 = .pointer (some ⟨b6, 0, none⟩) ∧ σ' 7 = .pointer (some ⟨b7, 0, none⟩) ∧ Blk u2 h2 b6 [.int .i64 k0, str pr, .slice xa ar.length xc, .int .i64 ao, .int .i64 op, .int .i64 l1, .int .i64 l2, str l3, .int .i64 l4, .int .i64 r1, .int .i64 r2, str r3, .int .i64 r4, .int .i64 of] ∧ Blk u2 h2 b7 [.int .i64 k0, str pr, .slice ya ar.length yc, .int .i64 ao, .int .i64 op, .int .i64 l1, .int .i64 l2, str l3, .int .i64 l4, .int .i64 r1, .int .i64 r2, str r3, .int .i64 r4, .int .i64 of]) ?_ ?_
  · simp (disch := first | omega | (simp only [e_ssz, e_psz, e_hszs, List.length_cons, List.length_nil]; try omega; done)) only [↓reduceIte, go_sem, w_both, e0, e1, e14, e15, hlt, p0, p1, p2, p3, p4, p5, p6, p7, p8, p9, p10, p11, p12, p13, q0, q1, q2, q3, q4, q5, q6, q7, q8, q9, q10, q11, q12, q13]
    refine ⟨?_, ?_⟩
    · exact two_new _ _ _ _
    · obtain ⟨u2, s, a, b⟩ := two_new (u := u') (h := h') [.int .i64 k0, str pr, .slice ya ar.length yc, .int .i64 ao, .int .i64 op, .int .i64 l1, .int .i64 l2, str l3, .int .i64 l4, .int .i64 r1, .int .i64 r2, str r3, .int .i64 r4, .int .i64 of] [.int .i64 k0, str pr, .slice xa ar.length xc, .int .i64 ao, .int .i64 op, .int .i64 l1, .int .i64 l2, str l3, .int .i64 l4, .int .i64 r1, .int .i64 r2, str r3, .int .i64 r4, .int .i64 of] 129 129
      exact ⟨u2, s, b, a⟩
  · rintro σ' h2 ⟨hkE, u2, b6, b7, s2, e6, e7, A6, A7⟩
    simp (disch := first | omega | (simp only [e_ssz, e_psz, e_hszs, List.length_cons, List.length_nil]; try omega; done)) only [go_sem, e0, e1, e14, e15] at hkE
    obtain ⟨k0, k1, k14, k15⟩ := hkE
    have A61 := A6.1
    have A71 := A7.1
    simp (disch := first | omega | (simp only [e_ssz, e_psz, e_hszs, List.length_cons, List.length_nil]; try omega; done)) only [↓reduceIte, go_sem, e6, e7, A6.at, A6.2.1, A7.at, A7.2.1]
    refine effS_call ⟨rfl, u2, pr, _, _, ar, ao, rfl, ixv.mono s2.ge, ixw.mono s2.ge, fun u5 h5 s5 => ⟨by simp (disch := first | omega | (simp only [e_ssz, e_psz, e_hszs, List.length_cons, List.length_nil]; try omega; done)) only [go_sem], ?_⟩⟩
    simp (disch := first | omega | (simp only [e_ssz, e_psz, e_hszs, List.length_cons, List.length_nil]; try omega; done)) only [↓reduceIte, go_sem, k15]
    refine ⟨k + 1, ?_, by omega⟩
    rw [hI]
    refine ⟨u5, ?_, ?_, ?_, ?_, hlt, (st.trans0 s2).trans0 s5⟩ <;> simp [upd, k0, k1, k14]
def C_sClauses (vs : List Value) (h : H) (K : Value → H → Prop) : Prop := ∃ (u : U) (v w : Value) (l : List ClauseT), vs = [v, w] ∧ IsSl u h v l ∧ IsSl u h w l ∧ ∀ u' h', Step S0 u h u' h' → K (.bool true) h'
def G_sClauses : Ctr := fun f vs h K _ => (f = 41 ∧ C_sAtom vs h K) ∨ (f = 37 ∧ C_sBody vs h K)
theorem G_sClauses_ok : GOk Tryd.prog G_sClauses := by
  rintro f vs h K KP (⟨rfl, hC⟩ | ⟨rfl, hC⟩)
  · exact plSameAtom_ok hC
  · exact plSameBody_ok hC
theorem plSameClauses_ok {vs : List Value} {h : H} {K : Value → H → Prop} {KP : List PanicEntry → H → Prop} (hC : C_sClauses vs h K) : HCX Tryd.prog 30 vs h K KP := by
  obtain ⟨u, v, w, l, rfl, iv, iw, hK⟩ := hC
  obtain ⟨va, vc, rfl, m1, m2⟩ := iv.sl
  obtain ⟨wa, wc, rfl, n1, n2⟩ := iw.sl
  have hm := mlen'
  refine plSameClauses_H G_sClauses G_sClauses_ok _ _ ?_
  simp (disch := first | omega | (simp only [e_ssz, e_psz, e_hszs, List.length_cons, List.length_nil]; try omega; done)) only [↓reduceIte, go_sem, plSameClauses_S, plSameClauses_E]
  obtain ⟨I, hI⟩ : ∃ I : Nat → Env → H → Prop, I = fun k σ h' => ∃ u', σ 0 = .slice va l.length vc ∧ σ 1 = .slice wa l.length wc ∧ σ 12 = .int .i64 (l.length : Nat) ∧ σ 13 = .int .i64 k ∧ k ≤ l.length ∧ Step S0 u h u' h' := ⟨_, rfl⟩
  refine wpS_loop I (fun j => l.length - j) 0 (by rw [hI]; exact ⟨u, by simp [upd], by simp [upd], by simp [upd], by simp [upd], by omega, Step.refl _ _ _⟩) ?_
  intro k σ h' hy
  rw [hI] at hy
  obtain ⟨u', e0, e1, e12, e13, hk, st⟩ := hy
  by_cases hlt : k < l.length
  case neg =>
    simp (disch := first | omega | (simp only [e_ssz, e_psz, e_hszs, List.length_cons, List.length_nil]; try omega; done)) only [↓reduceIte, go_sem, plSameClauses_L1, e12, e13, eq_false (show ¬ (k : Int) < (l.length : Nat) by omega)]
    exact hK _ _ st
  obtain ⟨x, hx⟩ : ∃ x, l[k]? = some x := ⟨l[k], by simp [hlt]⟩
  have jv := iv.mono st.ge
  have jw := iw.mono st.ge
  obtain ⟨pb, po, rfl, hpb, hpu, hpz, hpr⟩ := jv.row k x hx
  obtain ⟨qb, qo, rfl, hqb, hqu, hqz, hqr⟩ := jw.row k x hx
  rw [rep_clause] at hpr hqr
  obtain ⟨xv, xb, hpr, ixv, ixb⟩ := hpr
  obtain ⟨xw, yb, hqr, ixw, iyb⟩ := hqr
  simp only [sz_clause, hvs_4, List.cons.injEq, and_true] at hpr hpu hpz hqr hqu hqz
  obtain ⟨p0, p1, p2, p3⟩ := hpr
  obtain ⟨q0, q1, q2, q3⟩ := hqr
  obtain ⟨xa, xc, rfl, -, -⟩ := ixv.sl
  obtain ⟨ya, yc, rfl, -, -⟩ := ixw.sl
  obtain ⟨za, zc, rfl, -, -⟩ := ixb.sl
  obtain ⟨ta, tc, rfl, -, -⟩ := iyb.sl
  simp (disch := first | omega | (simp only [e_ssz, e_psz, e_hszs, List.length_cons, List.length_nil]; try omega; done)) only [↓reduceIte, go_sem, plSameClauses_L1, e0, e1, e12, e13, eq_true (show (k : Int) < (l.length : Nat) by omega), p0, p1, p2, q0, q1, q2]
  refine effS_call (.inl ⟨rfl, u', x.1.1, _, _, x.1.2.1, x.1.2.2, rfl, ixv, ixw, fun u5 h5 s5 => ⟨by simp (disch := first | omega | (simp only [e_ssz, e_psz, e_hszs, List.length_cons, List.length_nil]; try omega; done)) only [go_sem], ?_⟩⟩)
  have jv5 := jv.mono s5.ge
  have jw5 := jw.mono s5.ge
  have g3 : hv h5 pb (po + k * 4 + 3) = .slice za x.2.length zc := by rw [s5.ge.cl pb hpb _ (by omega), p3]
  have g3' : hv h5 qb (qo + k * 4 + 3) = .slice ta x.2.length tc := by rw [s5.ge.cl qb hqb _ (by omega), q3]
  have gz : hsz h5 pb = hsz h' pb := (s5.ge.hs pb hpb).1
  have gz' : hsz h5 qb = hsz h' qb := (s5.ge.hs qb hqb).1
  simp (disch := first | omega | (simp only [e_ssz, e_psz, e_hszs, List.length_cons, List.length_nil]; try omega; done)) only [↓reduceIte, go_sem, e0, e1, hlt, gz, gz', g3, g3']
  refine effS_call (.inr ⟨rfl, u5, _, _, x.2, rfl, ixb.mono s5.ge, iyb.mono s5.ge, fun u6 h6 s6 => ⟨by simp (disch := first | omega | (simp only [e_ssz, e_psz, e_hszs, List.length_cons, List.length_nil]; try omega; done)) only [go_sem], ?_⟩⟩)
  simp (disch := first | omega | (simp only [e_ssz, e_psz, e_hszs, List.length_cons, List.length_nil]; try omega; done)) only [↓reduceIte, go_sem, e13]
  refine ⟨k + 1, ?_, by omega⟩
  rw [hI]
  refine ⟨u6, ?_, ?_, ?_, ?_, hlt, (st.trans0 s5).trans0 s6⟩ <;> simp [upd, e0, e1, e12]
end Go.Proofs.YtmnfhmbmifompaaDoor
