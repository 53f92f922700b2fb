/- The law LexScan. -/
import Derived.Test.YtbkpmdgeeolifaaDoorLawS
import Derived.Test.YtbkpmdgeeolifaaDoorRefV
namespace Go.Proofs.YtbkpmdgeeolifaaDoor
open Go Go.Ev Edict
def C_same (vs : List Value) (h : H) (K : Value → H → Prop) : Prop := ∃ (u : U) (v w : Value) (l m : List Tok), vs = [v, w] ∧ IsSl u h v l ∧ IsSl u h w m ∧ K (.bool (decide (l = m))) h
theorem lwSame_ok {vs : List Value} {h : H} {K : Value → H → Prop} {KP : List PanicEntry → H → Prop} (hC : C_same vs h K) : HCX Tryd.prog 18 vs h K KP := by
  obtain ⟨u, v, w, l, m, rfl, hv, hw, hK⟩ := hC
  obtain ⟨va, vc, rfl, q1, q2⟩ := hv.sl
  obtain ⟨wa, wc, rfl, q3, q4⟩ := hw.sl
  have hm := mlen'
  refine lwSame_H (fun _ _ _ _ _ => False) (fun _ _ _ _ _ h => h.elim) _ _ ?_
  by_cases hlen : l.length = m.length
  case neg =>
    rw [decide_eq_false (fun e => hlen (by rw [e]))] at hK
    simp (disch := first | omega | (simp only [e_ssz, e_psz, e_hszs, List.length_cons, List.length_nil]; try omega; done)) only [↓reduceIte, go_sem, lwSame_S, lwSame_E, eq_false (show ¬ (l.length : Int) = (m.length : Nat) by omega)]
    exact hK
  simp (disch := first | omega | (simp only [e_ssz, e_psz, e_hszs, List.length_cons, List.length_nil]; try omega; done)) only [↓reduceIte, go_sem, lwSame_S, lwSame_E, eq_true hlen]
  obtain ⟨I, hI⟩ : ∃ I : Nat → Env → H → Prop, I = fun j σ h' => σ 0 = .slice va l.length vc ∧ σ 1 = .slice wa m.length wc ∧ σ 5 = .int .i64 j ∧ j ≤ l.length ∧ h' = h ∧ ∀ i, i < j → l[i]? = m[i]? := ⟨_, rfl⟩
  refine wpS_loop I (fun j => l.length - j) 0 (by rw [hI]; exact ⟨by simp [upd], by simp [upd], by simp [upd], by omega, rfl, fun i h => by omega⟩) ?_
  intro j σ h' hy
  rw [hI] at hy
  obtain ⟨e0, e1, e5, hj, rfl, hall⟩ := hy
  by_cases hlt : j < l.length
  · obtain ⟨x, hx⟩ : ∃ x, l[j]? = some x := ⟨l[j], by simp [hlt]⟩
    obtain ⟨y, hy⟩ : ∃ y, m[j]? = some y := ⟨m[j]'(by omega), by simp [show j < m.length by omega]⟩
    obtain ⟨pb, po, rfl, hpb, hpu, hpz, hpr⟩ := hv.row j x hx
    obtain ⟨qb, qo, rfl, hqb, hqu, hqz, hqr⟩ := hw.row j y hy
    rw [rep_tok] at hpr hqr
    simp only [tokE, sz_tok, hvs_6, List.cons.injEq, and_true] at hpr hpu hpz hqr hqu hqz
    obtain ⟨p0, p1, p2, p3, p4, p5⟩ := hpr
    obtain ⟨r0, r1, r2, r3, r4, r5⟩ := hqr
    by_cases hxy : x = y
    · subst hxy
      simp (disch := first | omega | (simp only [e_ssz, e_psz, e_hszs, List.length_cons, List.length_nil]; try omega; done)) only [↓reduceIte, go_sem, lwSame_L1, e0, e1, e5, hlt, p0, p1, p2, p3, p4, p5, r0, r1, r2, r3, r4, r5, eq_true (show j < m.length by omega)]
      refine ⟨j + 1, ?_, by omega⟩
      rw [hI]
      exact ⟨by simp [upd, e0], by simp [upd, e1], by simp [upd], hlt, rfl, fun i hi => by
        by_cases q : i = j
        · rw [q, hx, hy]
        · exact hall i (by omega)⟩
    · have hne : l ≠ m := fun e => hxy (by rw [e, hy] at hx; exact (Option.some.inj hx).symm)
      rw [decide_eq_false hne] at hK
      have hq : ¬ (x.1 = y.1 ∧ x.2.1 = y.2.1 ∧ x.2.2.1 = y.2.2.1 ∧ x.2.2.2.1 = y.2.2.2.1 ∧ x.2.2.2.2.1 = y.2.2.2.2.1 ∧ x.2.2.2.2.2 = y.2.2.2.2.2) := fun ⟨a, b, c, d, e, f⟩ => hxy (Prod.ext a (Prod.ext b (Prod.ext c (Prod.ext d (Prod.ext e f)))))
      simp (disch := first | omega | (simp only [e_ssz, e_psz, e_hszs, List.length_cons, List.length_nil]; try omega; done)) only [↓reduceIte, go_sem, lwSame_L1, e0, e1, e5, hlt, p0, p1, p2, p3, p4, p5, r0, r1, r2, r3, r4, r5, eq_true (show j < m.length by omega)]
      exact ⟨fun _ => hK, fun h => (hq ⟨Decidable.byContradiction fun q => h (.inl q), Decidable.byContradiction fun q => h (.inr (.inl q)), Decidable.byContradiction fun q => h (.inr (.inr (.inl q))), Decidable.byContradiction fun q => h (.inr (.inr (.inr (.inl q)))), Decidable.byContradiction fun q => h (.inr (.inr (.inr (.inr (.inl q))))), Decidable.byContradiction fun q => h (.inr (.inr (.inr (.inr (.inr q)))))⟩).elim⟩
  · obtain rfl : j = l.length := by omega
    have hlm : l = m := List.ext_getElem? fun i => by
      by_cases q : i < l.length
      · exact hall i q
      · rw [List.getElem?_eq_none (by omega), List.getElem?_eq_none (by omega)]
    rw [decide_eq_true hlm] at hK
    simp (disch := first | omega | (simp only [e_ssz, e_psz, e_hszs, List.length_cons, List.length_nil]; try omega; done)) only [↓reduceIte, go_sem, lwSame_L1, e0, e5]
    exact hK
def G_LexScan : Ctr := fun f vs h K _ => (f = 21 ∧ C_scan vs h K) ∨ (f = 15 ∧ C_rscan vs h K) ∨ (f = 18 ∧ C_same vs h K)
theorem G_LexScan_ok : GOk Tryd.prog G_LexScan := by
  rintro f vs h K KP (⟨rfl, hC⟩ | ⟨rfl, hC⟩ | ⟨rfl, hC⟩)
  · exact lxScan_ok hC
  · exact rfScan_ok hC
  · exact lwSame_ok hC
def C_law1 (vs : List Value) (h : H) (K : Value → H → Prop) : Prop := ∃ (u : U) (s : List UInt8), vs = [str s] ∧ s.length ≤ 9223372036854775807 ∧ LxG u h ∧ ∀ u' h', Step S0 u h u' h' → K (.bool true) h'
theorem LexScan_ok {vs : List Value} {h : H} {K : Value → H → Prop} {KP : List PanicEntry → H → Prop} (hC : C_law1 vs h K) : HCX Tryd.prog 5 vs h K KP := by
  obtain ⟨u, s, rfl, hl, hG, hK⟩ := hC
  refine LexScan_H G_LexScan G_LexScan_ok _ ?_
  simp (disch := first | omega | (simp only [e_ssz, e_psz, e_hszs, List.length_cons, List.length_nil]; try omega; done)) only [↓reduceIte, go_sem, LexScan_S, LexScan_E]
  refine effS_call (.inl ⟨rfl, u, s, rfl, hl, hG, fun u1 h1 v s1 o1 => ⟨by simp (disch := first | omega | (simp only [e_ssz, e_psz, e_hszs, List.length_cons, List.length_nil]; try omega; done)) only [go_sem], ?_⟩⟩)
  obtain ⟨c, hc⟩ : ∃ c, c = (scanF s).2.1 := ⟨_, rfl⟩
  obtain ⟨p, hp⟩ : ∃ p, p = (scanF s).2.2 := ⟨_, rfl⟩
  obtain ⟨va, vc, rfl, -, -⟩ := o1.sl
  rw [← hc, ← hp]
  simp only [fltE]
  simp (disch := first | omega | (simp only [e_ssz, e_psz, e_hszs, List.length_cons, List.length_nil]; try omega; done)) only [↓reduceIte, go_sem]
  have st2 := s1.pushR (c := (fltE c p).toArray) (t := 25)
  have A2 := Blk.new (u := u1) (h := h1) (fltE c p) 25
  have o2 := o1.step0 (Step.push0 S0 u1 h1 (fltE c p).toArray 25)
  simp only [fltE] at st2 A2 o2
  refine effS_call (.inr (.inl ⟨rfl, ub u1 h1.size 0, s, rfl, hl, fun u3 h3 w s3 o3 => ⟨by simp (disch := first | omega | (simp only [e_ssz, e_psz, e_hszs, List.length_cons, List.length_nil]; try omega; done)) only [go_sem], ?_⟩⟩))
  obtain ⟨wa, wc, rfl, -, -⟩ := o3.sl
  rw [← hc, ← hp]
  simp only [fltE]
  have A3 := A2.step0 s3
  have A31 := A3.1
  have st3 := st2.trans0 s3
  have s4 := Step.push0 S0 u3 h3 (fltE c p).toArray 25
  have i2 := ((o2.step0 s3).isSl).mono s4.ge
  have i3 := o3.isSl.mono s4.ge
  simp only [fltE] at s4 i2 i3
  simp (disch := first | omega | (simp only [e_ssz, e_psz, e_hszs, List.length_cons, List.length_nil]; try omega; done)) only [↓reduceIte, go_sem, A3.at, A3.2.1]
  refine effS_call (.inr (.inr ⟨rfl, ub u3 h3.size 0, _, _, _, _, rfl, i2, i3, ⟨by simp (disch := first | omega | (simp only [e_ssz, e_psz, e_hszs, List.length_cons, List.length_nil]; try omega; done)) only [go_sem], ?_⟩⟩))
  simp (disch := first | omega | (simp only [e_ssz, e_psz, e_hszs, List.length_cons, List.length_nil]; try omega; done)) only [↓reduceIte, go_sem]
  exact hK _ _ (st3.trans0 s4)
theorem LexScan_hc {s : List UInt8} {h : H} (hl : s.length ≤ 9223372036854775807) (hG : LxG (hsz h) h) : HCX Tryd.prog 5 [str s] h (fun v h' => v = .bool true ∧ Ext0 h h') fun _ _ => False :=
  LexScan_ok ⟨hsz h, s, rfl, hl, hG, fun u' h' st => ⟨rfl, st.ext⟩⟩
end Go.Proofs.YtbkpmdgeeolifaaDoor
