/- The laws' comparisons, at equal data: sameAtom, sameAtoms. -/
import Derived.Test.YtmnfhmbmifompaaDoorPsFs
import Derived.Test.YtmnfhmbmifompaaDoorPlS
namespace Go.Proofs.YtmnfhmbmifompaaDoor
open Go Go.Ev Edict
def C_law1 (vs : List Value) (h : H) (K : Value → H → Prop) : Prop := ∃ (u : U) (s : List UInt8), vs = [str s] ∧ s.length ≤ 9223372036854775807 ∧ LxG u h ∧ ∀ u' h', Step S0 u h u' h' → K (.bool true) h'
def C_sAtom (vs : List Value) (h : H) (K : Value → H → Prop) : Prop := ∃ (u : U) (p : List UInt8) (v w : Value) (l : List TermT) (of : Int), vs = [.agg #[str p, v, .int .i64 of], .agg #[str p, w, .int .i64 of]] ∧ IsSl u h v l ∧ IsSl u h w l ∧ ∀ u' h', Step S0 u h u' h' → K (.bool true) h'
theorem plSameAtom_ok {vs : List Value} {h : H} {K : Value → H → Prop} {KP : List PanicEntry → H → Prop} (hC : C_sAtom vs h K) : HCX Tryd.prog 41 vs h K KP := by
  obtain ⟨u, p, v, w, l, of, rfl, iv, iw, hK⟩ := hC
  obtain ⟨va, vc, rfl, m1, m2⟩ := iv.sl
  obtain ⟨wa, wc, rfl, n1, n2⟩ := iw.sl
  have hm := mlen'
  refine plSameAtom_H (fun _ _ _ _ _ => False) (fun _ _ _ _ _ h => h.elim) _ _ ?_
  have s1 := (Step.push0 S0 u h #[str p, .slice va l.length vc, .int .i64 of] 52).trans0 (Step.push0 S0 _ _ #[str p, .slice wa l.length wc, .int .i64 of] 52)
  have B1 := (Blk.new (u := u) (h := h) [str p, .slice va l.length vc, .int .i64 of] 52).pushR (c := #[str p, .slice wa l.length wc, .int .i64 of]) (t := 52)
  have B2 := Blk.new (u := ub u h.size 0) (h := h.push (.cells #[str p, .slice va l.length vc, .int .i64 of] 52)) [str p, .slice wa l.length wc, .int .i64 of] 52
  have jv := iv.mono s1.ge
  have jw := iw.mono s1.ge
  have hK' := hK _ _ s1
  obtain ⟨h1, hh1⟩ : ∃ h1, h1 = (h.push (.cells #[str p, .slice va l.length vc, .int .i64 of] 52)).push (.cells #[str p, .slice wa l.length wc, .int .i64 of] 52) := ⟨_, rfl⟩
  obtain ⟨u1, hu1⟩ : ∃ u1, u1 = ub (ub u h.size 0) (h.push (.cells #[str p, .slice va l.length vc, .int .i64 of] 52)).size 0 := ⟨_, rfl⟩
  have B2' : Blk u1 h1 (h.size + 1) [str p, .slice wa l.length wc, .int .i64 of] := by rw [hu1, hh1]; simpa using B2
  rw [← hh1, ← hu1] at B1 jv jw
  rw [← hh1] at hK'
  clear B2
  have B11 := B1.1
  have B21 := B2'.1
  simp (disch := first | omega | (simp only [e_ssz, e_psz, e_hszs, List.length_cons, List.length_nil]; try omega; done)) only [↓reduceIte, go_sem, plSameAtom_S, plSameAtom_E, ← hh1, B1.at, B1.2.1, B2'.at, B2'.2.1]
  obtain ⟨I, hI⟩ : ∃ I : Nat → Env → H → Prop, I = fun k σ h' => σ 2 = .pointer (some ⟨h.size, 0, none⟩) ∧ σ 3 = .pointer (some ⟨h.size + 1, 0, none⟩) ∧ σ 29 = .int .i64 (l.length : Nat) ∧ σ 30 = .int .i64 k ∧ k ≤ l.length ∧ h' = h1 := ⟨_, rfl⟩
  refine wpS_loop I (fun j => l.length - j) 0 (by rw [hI]; exact ⟨by simp [upd], by simp [upd], by simp [upd], by simp [upd], by omega, rfl⟩) ?_
  intro k σ h' hy
  rw [hI] at hy
  obtain ⟨e2, e3, e29, e30, hk, rfl⟩ := hy
  by_cases hlt : k < l.length
  case neg =>
    simp (disch := first | omega | (simp only [e_ssz, e_psz, e_hszs, List.length_cons, List.length_nil]; try omega; done)) only [↓reduceIte, go_sem, plSameAtom_L1, e29, e30, eq_false (show ¬ (k : Int) < (l.length : Nat) by omega)]
    exact hK'
  obtain ⟨x, hx⟩ : ∃ x, l[k]? = some x := ⟨l[k], by simp [hlt]⟩
  obtain ⟨pb, po, rfl, hpb, hpu, hpz, hpr⟩ := jv.row k x hx
  obtain ⟨qb, qo, rfl, hqb, hqu, hqz, hqr⟩ := jw.row k x hx
  rw [rep_term] at hpr hqr
  simp only [termE, sz_term, hvs_4, List.cons.injEq, and_true] at hpr hpu hpz hqr hqu hqz
  obtain ⟨p0, p1, p2, p3⟩ := hpr
  obtain ⟨q0, q1, q2, q3⟩ := hqr
  simp (disch := first | omega | (simp only [e_ssz, e_psz, e_hszs, List.length_cons, List.length_nil]; try omega; done)) only [↓reduceIte, go_sem, plSameAtom_L1, e2, e3, e29, e30, eq_true (show (k : Int) < (l.length : Nat) by omega), B1.at, B1.2.1, B2'.at, B2'.2.1, p0, p1, p2, p3, q0, q1, q2, q3]
  refine ⟨k + 1, ?_, by omega⟩
  rw [hI]
  refine ⟨?_, ?_, ?_, ?_, hlt, rfl⟩ <;> simp [upd, e2, e3, e29]
def C_sAtoms (vs : List Value) (h : H) (K : Value → H → Prop) : Prop := ∃ (u : U) (v w : Value) (l : List AtomT), vs = [v, w] ∧ IsSl u h v l ∧ IsSl u h w l ∧ ∀ u' h', Step S0 u h u' h' → K (.bool true) h'
def G_sAtoms : Ctr := fun f vs h K _ => f = 41 ∧ C_sAtom vs h K
theorem G_sAtoms_ok : GOk Tryd.prog G_sAtoms := by
  rintro f vs h K KP ⟨rfl, hC⟩; exact plSameAtom_ok hC
theorem plSameAtoms_ok {vs : List Value} {h : H} {K : Value → H → Prop} {KP : List PanicEntry → H → Prop} (hC : C_sAtoms vs h K) : HCX Tryd.prog 24 vs h K KP := by
  obtain ⟨u, v, w, l, rfl, iv, iw, hK⟩ := hC
  obtain ⟨va, vc, rfl, m1, m2⟩ := iv.sl
  obtain ⟨wa, wc, rfl, n1, n2⟩ := iw.sl
  have hm := mlen'
  refine plSameAtoms_H G_sAtoms G_sAtoms_ok _ _ ?_
  simp (disch := first | omega | (simp only [e_ssz, e_psz, e_hszs, List.length_cons, List.length_nil]; try omega; done)) only [↓reduceIte, go_sem, plSameAtoms_S, plSameAtoms_E]
  obtain ⟨I, hI⟩ : ∃ I : Nat → Env → H → Prop, I = fun k σ h' => ∃ u', σ 0 = .slice va l.length vc ∧ σ 1 = .slice wa l.length wc ∧ σ 12 = .int .i64 (l.length : Nat) ∧ σ 13 = .int .i64 k ∧ k ≤ l.length ∧ Step S0 u h u' h' := ⟨_, rfl⟩
  refine wpS_loop I (fun j => l.length - j) 0 (by rw [hI]; exact ⟨u, by simp [upd], by simp [upd], by simp [upd], by simp [upd], by omega, Step.refl _ _ _⟩) ?_
  intro k σ h' hy
  rw [hI] at hy
  obtain ⟨u', e0, e1, e12, e13, hk, st⟩ := hy
  by_cases hlt : k < l.length
  case neg =>
    simp (disch := first | omega | (simp only [e_ssz, e_psz, e_hszs, List.length_cons, List.length_nil]; try omega; done)) only [↓reduceIte, go_sem, plSameAtoms_L1, e12, e13, eq_false (show ¬ (k : Int) < (l.length : Nat) by omega)]
    exact hK _ _ st
  obtain ⟨x, hx⟩ : ∃ x, l[k]? = some x := ⟨l[k], by simp [hlt]⟩
  have jv := iv.mono st.ge
  have jw := iw.mono st.ge
  obtain ⟨pb, po, rfl, hpb, hpu, hpz, hpr⟩ := jv.row k x hx
  obtain ⟨qb, qo, rfl, hqb, hqu, hqz, hqr⟩ := jw.row k x hx
  rw [rep_atom] at hpr hqr
  obtain ⟨xv, hpr, ixv⟩ := hpr
  obtain ⟨xw, hqr, ixw⟩ := hqr
  simp only [sz_atom, hvs_3, List.cons.injEq, and_true] at hpr hpu hpz hqr hqu hqz
  obtain ⟨p0, p1, p2⟩ := hpr
  obtain ⟨q0, q1, q2⟩ := hqr
  obtain ⟨xa, xc, rfl, -, -⟩ := ixv.sl
  obtain ⟨ya, yc, rfl, -, -⟩ := ixw.sl
  simp (disch := first | omega | (simp only [e_ssz, e_psz, e_hszs, List.length_cons, List.length_nil]; try omega; done)) only [↓reduceIte, go_sem, plSameAtoms_L1, e0, e1, e12, e13, eq_true (show (k : Int) < (l.length : Nat) by omega), p0, p1, p2, q0, q1, q2]
  refine effS_call ⟨rfl, u', x.1, _, _, x.2.1, x.2.2, rfl, ixv, ixw, fun u5 h5 s5 => ⟨by simp (disch := first | omega | (simp only [e_ssz, e_psz, e_hszs, List.length_cons, List.length_nil]; try omega; done)) only [go_sem], ?_⟩⟩
  simp (disch := first | omega | (simp only [e_ssz, e_psz, e_hszs, List.length_cons, List.length_nil]; try omega; done)) only [↓reduceIte, go_sem, e13]
  refine ⟨k + 1, ?_, by omega⟩
  rw [hI]
  refine ⟨u5, ?_, ?_, ?_, ?_, hlt, st.trans0 s5⟩ <;> simp [upd, e0, e1, e12]
end Go.Proofs.YtmnfhmbmifompaaDoor
