/- The laws' comparisons, at equal data: sameAtom, sameAtoms; and the law ParseFacts. -/
import Derived.Test.YtmnfhmbmifompaaDoorPlA
import Derived.Test.YtmnfhmbmifompaaDoorPrFs
namespace Go.Proofs.YtmnfhmbmifompaaDoor
open Go Go.Ev Edict
def C_sAtom (vs : List Value) (h : H) (K : Value → H → Prop) : Prop := ∃ (u : U) (p : List UInt8) (v w : Value) (l : List TermT) (of : Int), vs = [.agg #[str p, v, .int .i64 of], .agg #[str p, w, .int .i64 of]] ∧ IsSl u h v l ∧ IsSl u h w l ∧ ∀ u' h', Step S0 u h u' h' → K (.bool true) h'
theorem plSameAtom_ok {vs : List Value} {h : H} {K : Value → H → Prop} {KP : List PanicEntry → H → Prop} (hC : C_sAtom vs h K) : HCX Tryd.prog 41 vs h K KP := by
  obtain ⟨u, p, v, w, l, of, rfl, iv, iw, hK⟩ := hC
  obtain ⟨va, vc, rfl, m1, m2⟩ := iv.sl
  obtain ⟨wa, wc, rfl, n1, n2⟩ := iw.sl
  have hm := mlen'
  refine plSameAtom_H (fun _ _ _ _ _ => False) (fun _ _ _ _ _ h => h.elim) _ _ ?_
  have s1 := (Step.push0 S0 u h #[str p, .slice va l.length vc, .int .i64 of] 52).trans0 (Step.push0 S0 _ _ #[str p, .slice wa l.length wc, .int .i64 of] 52)
  have B1 := (Blk.new (u := u) (h := h) [str p, .slice va l.length vc, .int .i64 of] 52).pushR (c := #[str p, .slice wa l.length wc, .int .i64 of]) (t := 52)
  have B2 := Blk.new (u := ub u h.size 0) (h := h.push (.cells #[str p, .slice va l.length vc, .int .i64 of] 52)) [str p, .slice wa l.length wc, .int .i64 of] 52
  have jv := iv.mono s1.ge
  have jw := iw.mono s1.ge
  have hK' := hK _ _ s1
  obtain ⟨h1, hh1⟩ : ∃ h1, h1 = (h.push (.cells #[str p, .slice va l.length vc, .int .i64 of] 52)).push (.cells #[str p, .slice wa l.length wc, .int .i64 of] 52) := ⟨_, rfl⟩
  obtain ⟨u1, hu1⟩ : ∃ u1, u1 = ub (ub u h.size 0) (h.push (.cells #[str p, .slice va l.length vc, .int .i64 of] 52)).size 0 := ⟨_, rfl⟩
  have B2' : Blk u1 h1 (h.size + 1) [str p, .slice wa l.length wc, .int .i64 of] := by rw [hu1, hh1]; simpa using B2
  rw [← hh1, ← hu1] at B1 jv jw
  rw [← hh1] at hK'
  clear B2
  have B11 := B1.1
  have B21 := B2'.1
  simp (disch := first | omega | (simp only [e_ssz, e_psz, e_hszs, List.length_cons, List.length_nil]; try omega; done)) only [↓reduceIte, go_sem, plSameAtom_S, plSameAtom_E, ← hh1, B1.at, B1.2.1, B2'.at, B2'.2.1]
  obtain ⟨I, hI⟩ : ∃ I : Nat → Env → H → Prop, I = fun k σ h' => σ 2 = .pointer (some ⟨h.size, 0, none⟩) ∧ σ 3 = .pointer (some ⟨h.size + 1, 0, none⟩) ∧ σ 29 = .int .i64 (l.length : Nat) ∧ σ 30 = .int .i64 k ∧ k ≤ l.length ∧ h' = h1 := ⟨_, rfl⟩
  refine wpS_loop I (fun j => l.length - j) 0 (by rw [hI]; exact ⟨by simp [upd], by simp [upd], by simp [upd], by simp [upd], by omega, rfl⟩) ?_
  intro k σ h' hy
  rw [hI] at hy
  obtain ⟨e2, e3, e29, e30, hk, rfl⟩ := hy
  by_cases hlt : k < l.length
  case neg =>
    simp (disch := first | omega | (simp only [e_ssz, e_psz, e_hszs, List.length_cons, List.length_nil]; try omega; done)) only [↓reduceIte, go_sem, plSameAtom_L1, e29, e30, eq_false (show ¬ (k : Int) < (l.length : Nat) by omega)]
    exact hK'
  obtain ⟨x, hx⟩ : ∃ x, l[k]? = some x := ⟨l[k], by simp [hlt]⟩
  obtain ⟨pb, po, rfl, hpb, hpu, hpz, hpr⟩ := jv.row k x hx
  obtain ⟨qb, qo, rfl, hqb, hqu, hqz, hqr⟩ := jw.row k x hx
  rw [rep_term] at hpr hqr
  simp only [termE, sz_term, hvs_4, List.cons.injEq, and_true] at hpr hpu hpz hqr hqu hqz
  obtain ⟨p0, p1, p2, p3⟩ := hpr
  obtain ⟨q0, q1, q2, q3⟩ := hqr
  simp (disch := first | omega | (simp only [e_ssz, e_psz, e_hszs, List.length_cons, List.length_nil]; try omega; done)) only [↓reduceIte, go_sem, plSameAtom_L1, e2, e3, e29, e30, eq_true (show (k : Int) < (l.length : Nat) by omega), B1.at, B1.2.1, B2'.at, B2'.2.1, p0, p1, p2, p3, q0, q1, q2, q3]
  refine ⟨k + 1, ?_, by omega⟩
  rw [hI]
  refine ⟨?_, ?_, ?_, ?_, hlt, rfl⟩ <;> simp [upd, e2, e3, e29]
def C_sAtoms (vs : List Value) (h : H) (K : Value → H → Prop) : Prop := ∃ (u : U) (v w : Value) (l : List AtomT), vs = [v, w] ∧ IsSl u h v l ∧ IsSl u h w l ∧ ∀ u' h', Step S0 u h u' h' → K (.bool true) h'
def G_sAtoms : Ctr := fun f vs h K _ => f = 41 ∧ C_sAtom vs h K
theorem G_sAtoms_ok : GOk Tryd.prog G_sAtoms := by
  rintro f vs h K KP ⟨rfl, hC⟩; exact plSameAtom_ok hC
theorem plSameAtoms_ok {vs : List Value} {h : H} {K : Value → H → Prop} {KP : List PanicEntry → H → Prop} (hC : C_sAtoms vs h K) : HCX Tryd.prog 24 vs h K KP := by
  obtain ⟨u, v, w, l, rfl, iv, iw, hK⟩ := hC
  obtain ⟨va, vc, rfl, m1, m2⟩ := iv.sl
  obtain ⟨wa, wc, rfl, n1, n2⟩ := iw.sl
  have hm := mlen'
  refine plSameAtoms_H G_sAtoms G_sAtoms_ok _ _ ?_
  simp (disch := first | omega | (simp only [e_ssz, e_psz, e_hszs, List.length_cons, List.length_nil]; try omega; done)) only [↓reduceIte, go_sem, plSameAtoms_S, plSameAtoms_E]
  obtain ⟨I, hI⟩ : ∃ I : Nat → Env → H → Prop, I = fun k σ h' => ∃ u', σ 0 = .slice va l.length vc ∧ σ 1 = .slice wa l.length wc ∧ σ 12 = .int .i64 (l.length : Nat) ∧ σ 13 = .int .i64 k ∧ k ≤ l.length ∧ Step S0 u h u' h' := ⟨_, rfl⟩
  refine wpS_loop I (fun j => l.length - j) 0 (by rw [hI]; exact ⟨u, by simp [upd], by simp [upd], by simp [upd], by simp [upd], by omega, Step.refl _ _ _⟩) ?_
  intro k σ h' hy
  rw [hI] at hy
  obtain ⟨u', e0, e1, e12, e13, hk, st⟩ := hy
  by_cases hlt : k < l.length
  case neg =>
    simp (disch := first | omega | (simp only [e_ssz, e_psz, e_hszs, List.length_cons, List.length_nil]; try omega; done)) only [↓reduceIte, go_sem, plSameAtoms_L1, e12, e13, eq_false (show ¬ (k : Int) < (l.length : Nat) by omega)]
    exact hK _ _ st
  obtain ⟨x, hx⟩ : ∃ x, l[k]? = some x := ⟨l[k], by simp [hlt]⟩
  have jv := iv.mono st.ge
  have jw := iw.mono st.ge
  obtain ⟨pb, po, rfl, hpb, hpu, hpz, hpr⟩ := jv.row k x hx
  obtain ⟨qb, qo, rfl, hqb, hqu, hqz, hqr⟩ := jw.row k x hx
  rw [rep_atom] at hpr hqr
  obtain ⟨xv, hpr, ixv⟩ := hpr
  obtain ⟨xw, hqr, ixw⟩ := hqr
  simp only [sz_atom, hvs_3, List.cons.injEq, and_true] at hpr hpu hpz hqr hqu hqz
  obtain ⟨p0, p1, p2⟩ := hpr
  obtain ⟨q0, q1, q2⟩ := hqr
  obtain ⟨xa, xc, rfl, -, -⟩ := ixv.sl
  obtain ⟨ya, yc, rfl, -, -⟩ := ixw.sl
  simp (disch := first | omega | (simp only [e_ssz, e_psz, e_hszs, List.length_cons, List.length_nil]; try omega; done)) only [↓reduceIte, go_sem, plSameAtoms_L1, e0, e1, e12, e13, eq_true (show (k : Int) < (l.length : Nat) by omega), p0, p1, p2, q0, q1, q2]
  refine effS_call ⟨rfl, u', x.1, _, _, x.2.1, x.2.2, rfl, ixv, ixw, fun u5 h5 s5 => ⟨by simp (disch := first | omega | (simp only [e_ssz, e_psz, e_hszs, List.length_cons, List.length_nil]; try omega; done)) only [go_sem], ?_⟩⟩
  simp (disch := first | omega | (simp only [e_ssz, e_psz, e_hszs, List.length_cons, List.length_nil]; try omega; done)) only [↓reduceIte, go_sem, e13]
  refine ⟨k + 1, ?_, by omega⟩
  rw [hI]
  refine ⟨u5, ?_, ?_, ?_, ?_, hlt, st.trans0 s5⟩ <;> simp [upd, e0, e1, e12]
def resFacts (src : List UInt8) : List AtomT × Flt := match parseF (fun b l => factsD b [] l) src with | .error e => ([], e) | .ok a => (a, (0, 0))
def C_pFactsU (vs : List Value) (h : H) (K : Value → H → Prop) : Prop := ∃ (u : U) (src : List UInt8), vs = [str src] ∧ src.length ≤ 9223372036854775807 ∧ LxG u h ∧ ∀ u' h' w, Step S0 u h u' h' → Own h.size u' h' w (resFacts src).1 → K (.tuple #[w, fltV (resFacts src).2]) h'
def C_rFactsU (vs : List Value) (h : H) (K : Value → H → Prop) : Prop := ∃ (u : U) (src : List UInt8), vs = [str src] ∧ src.length ≤ 9223372036854775807 ∧ ∀ u' h' w, Step S0 u h u' h' → Own h.size u' h' w (resFacts src).1 → K (.tuple #[w, fltV (resFacts src).2]) h'
theorem psFactsU_ok {vs : List Value} {h : H} {K : Value → H → Prop} {KP : List PanicEntry → H → Prop} (hC : C_pFactsU vs h K) : HCX Tryd.prog 22 vs h K KP := by
  obtain ⟨u, src, rfl, hl, hG, hK⟩ := hC
  refine psFacts_ok ⟨u, src, rfl, hl, hG, fun e he u' h' s => ?_, fun a ha u' h' w s o => ?_⟩
  · have hr : resFacts src = ([], e) := by unfold resFacts; rw [he]
    rw [hr] at hK
    exact hK u' h' _ s (.nil _ _ _)
  · have hr : resFacts src = (a, (0, 0)) := by unfold resFacts; rw [ha]
    rw [hr] at hK
    exact hK u' h' _ s o
theorem rpFactsU_ok {vs : List Value} {h : H} {K : Value → H → Prop} {KP : List PanicEntry → H → Prop} (hC : C_rFactsU vs h K) : HCX Tryd.prog 23 vs h K KP := by
  obtain ⟨u, src, rfl, hl, hK⟩ := hC
  refine rpFacts_ok ⟨u, src, rfl, hl, fun e he u' h' s => ?_, fun a ha u' h' w s o => ?_⟩
  · have hr : resFacts src = ([], e) := by unfold resFacts; rw [he]
    rw [hr] at hK
    exact hK u' h' _ s (.nil _ _ _)
  · have hr : resFacts src = (a, (0, 0)) := by unfold resFacts; rw [ha]
    rw [hr] at hK
    exact hK u' h' _ s o
def G_FactsL : Ctr := fun f vs h K _ => (f = 22 ∧ C_pFactsU vs h K) ∨ (f = 23 ∧ C_rFactsU vs h K) ∨ (f = 24 ∧ C_sAtoms vs h K)
theorem G_FactsL_ok : GOk Tryd.prog G_FactsL := by
  rintro f vs h K KP (⟨rfl, hC⟩ | ⟨rfl, hC⟩ | ⟨rfl, hC⟩)
  · exact psFactsU_ok hC
  · exact rpFactsU_ok hC
  · exact plSameAtoms_ok hC
theorem ParseFacts_ok {vs : List Value} {h : H} {K : Value → H → Prop} {KP : List PanicEntry → H → Prop} (hC : C_law1 vs h K) : HCX Tryd.prog 4 vs h K KP := by
  obtain ⟨u, src, rfl, hl, hG, hK⟩ := hC
  refine ParseFacts_H G_FactsL G_FactsL_ok _ ?_
  simp (disch := first | omega | (simp only [e_ssz, e_psz, e_hszs, List.length_cons, List.length_nil]; try omega; done)) only [↓reduceIte, go_sem, ParseFacts_S, ParseFacts_E]
  refine effS_call (.inl ⟨rfl, u, src, rfl, hl, hG, fun u1 h1 w1 s1 o1 => ⟨by simp (disch := first | omega | (simp only [e_ssz, e_psz, e_hszs, List.length_cons, List.length_nil]; try omega; done)) only [go_sem], ?_⟩⟩)
  obtain ⟨l, hl'⟩ : ∃ l, l = (resFacts src).1 := ⟨_, rfl⟩
  obtain ⟨f, hf⟩ : ∃ f, f = (resFacts src).2 := ⟨_, rfl⟩
  rw [← hl'] at o1
  rw [← hf]
  obtain ⟨a1, c1, rfl, m1, m2⟩ := o1.sl
  simp only [fltV]
  obtain ⟨h3, h4, u4, hh3, hh4, B3, B4, s4, hz4⟩ := boxed u1 h1 [.int .i64 0, .int .i64 0, .int .i64 0] [.int .i64 f.1, .int .i64 0, .int .i64 f.2] 27 rfl
  have B31 := B3.1
  have B41 := B4.1
  simp (disch := first | omega | (simp only [e_ssz, e_psz, e_hszs, List.length_cons, List.length_nil]; try omega; done)) only [↓reduceIte, go_sem, ← hh3, ← hh4, B3.2.1, B3.2.2.1]
  have o4 := o1.step0 s4
  refine effS_call (.inr (.inl ⟨rfl, u4, src, rfl, hl, fun u5 h5 w5 s5 o5 => ⟨by simp (disch := first | omega | (simp only [e_ssz, e_psz, e_hszs, List.length_cons, List.length_nil]; try omega; done)) only [go_sem], ?_⟩⟩))
  rw [← hl'] at o5
  rw [← hf]
  obtain ⟨a5, c5, rfl, n1, n2⟩ := o5.sl
  simp only [fltV]
  obtain ⟨h6, h7, u7, hh6, hh7, B6, B7, s7, hz7⟩ := boxed u5 h5 [.int .i64 0, .int .i64 0, .int .i64 0] [.int .i64 f.1, .int .i64 0, .int .i64 f.2] 27 rfl
  have D4 := (B4.step0 s5).step0 s7
  have i4 := ((o4.step0 s5).step0 s7).isSl
  have j4 := (o5.step0 s7).isSl
  have st := (((s1.trans0 s4).trans0 s5).trans0 s7)
  have B61 := B6.1
  have B71 := B7.1
  have D41 := D4.1
  simp (disch := first | omega | (simp only [e_ssz, e_psz, e_hszs, List.length_cons, List.length_nil]; try omega; done)) only [↓reduceIte, go_sem, ← hh6, ← hh7, B6.2.1, B6.2.2.1, B7.at, B7.2.1, D4.at, D4.2.1]
  refine effS_call (.inr (.inr ⟨rfl, u7, _, _, l, rfl, i4, j4, fun u8 h8 s8 => ⟨by simp (disch := first | omega | (simp only [e_ssz, e_psz, e_hszs, List.length_cons, List.length_nil]; try omega; done)) only [go_sem], ?_⟩⟩))
  simp (disch := first | omega | (simp only [e_ssz, e_psz, e_hszs, List.length_cons, List.length_nil]; try omega; done)) only [↓reduceIte, go_sem]
  exact hK _ _ (st.trans0 s8)
theorem ParseFacts_hc {s : List UInt8} {h : H} (hl : s.length ≤ 9223372036854775807) (hG : LxG (hsz h) h) : HCX Tryd.prog 4 [str s] h (fun v h' => v = .bool true ∧ Ext0 h h') fun _ _ => False :=
  ParseFacts_ok ⟨hsz h, s, rfl, hl, hG, fun u' h' st => ⟨rfl, st.ext⟩⟩
end Go.Proofs.YtmnfhmbmifompaaDoor
