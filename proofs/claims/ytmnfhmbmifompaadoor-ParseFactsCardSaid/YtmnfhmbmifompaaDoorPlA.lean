/- The laws' comparisons, at equal data: sameFact, sameAtom; and the law ParseOnes. -/
import Derived.Test.YtmnfhmbmifompaaDoorPrF
import Derived.Test.YtmnfhmbmifompaaDoorPlS
namespace Go.Proofs.YtmnfhmbmifompaaDoor
open Go Go.Ev Edict
def C_sFact (vs : List Value) (h : H) (K : Value → H → Prop) : Prop := ∃ (u : U) (p : List UInt8) (v w : Value) (l : List ConstT), vs = [.agg #[str p, v], .agg #[str p, w]] ∧ IsSl u h v l ∧ IsSl u h w l ∧ ∀ u' h', Step S0 u h u' h' → K (.bool true) h'
theorem plSameFact_ok {vs : List Value} {h : H} {K : Value → H → Prop} {KP : List PanicEntry → H → Prop} (hC : C_sFact vs h K) : HCX Tryd.prog 21 vs h K KP := by
  obtain ⟨u, p, v, w, l, rfl, iv, iw, hK⟩ := hC
  obtain ⟨va, vc, rfl, m1, m2⟩ := iv.sl
  obtain ⟨wa, wc, rfl, n1, n2⟩ := iw.sl
  have hm := mlen'
  refine plSameFact_H (fun _ _ _ _ _ => False) (fun _ _ _ _ _ h => h.elim) _ _ ?_
  have s1 := (Step.push0 S0 u h #[str p, .slice va l.length vc] 24).trans0 (Step.push0 S0 _ _ #[str p, .slice wa l.length wc] 24)
  have B1 := (Blk.new (u := u) (h := h) [str p, .slice va l.length vc] 24).pushR (c := #[str p, .slice wa l.length wc]) (t := 24)
  have B2 := Blk.new (u := ub u h.size 0) (h := h.push (.cells #[str p, .slice va l.length vc] 24)) [str p, .slice wa l.length wc] 24
  have jv := iv.mono s1.ge
  have jw := iw.mono s1.ge
  have hK' := hK _ _ s1
  obtain ⟨h1, hh1⟩ : ∃ h1, h1 = (h.push (.cells #[str p, .slice va l.length vc] 24)).push (.cells #[str p, .slice wa l.length wc] 24) := ⟨_, rfl⟩
  obtain ⟨u1, hu1⟩ : ∃ u1, u1 = ub (ub u h.size 0) (h.push (.cells #[str p, .slice va l.length vc] 24)).size 0 := ⟨_, rfl⟩
  have B2' : Blk u1 h1 (h.size + 1) [str p, .slice wa l.length wc] := by rw [hu1, hh1]; simpa using B2
  rw [← hh1, ← hu1] at B1 jv jw
  rw [← hh1] at hK'
  clear B2
  have B11 := B1.1
  have B21 := B2'.1
  simp (disch := first | omega | (simp only [e_ssz, e_psz, e_hszs, List.length_cons, List.length_nil]; try omega; done)) only [↓reduceIte, go_sem, plSameFact_S, plSameFact_E, ← hh1, B1.at, B1.2.1, B2'.at, B2'.2.1]
  obtain ⟨I, hI⟩ : ∃ I : Nat → Env → H → Prop, I = fun k σ h' => σ 2 = .pointer (some ⟨h.size, 0, none⟩) ∧ σ 3 = .pointer (some ⟨h.size + 1, 0, none⟩) ∧ σ 22 = .int .i64 (l.length : Nat) ∧ σ 23 = .int .i64 k ∧ k ≤ l.length ∧ h' = h1 := ⟨_, rfl⟩
  refine wpS_loop I (fun j => l.length - j) 0 (by rw [hI]; exact ⟨by simp [upd], by simp [upd], by simp [upd], by simp [upd], by omega, rfl⟩) ?_
  intro k σ h' hy
  rw [hI] at hy
  obtain ⟨e2, e3, e22, e23, hk, rfl⟩ := hy
  by_cases hlt : k < l.length
  case neg =>
    simp (disch := first | omega | (simp only [e_ssz, e_psz, e_hszs, List.length_cons, List.length_nil]; try omega; done)) only [↓reduceIte, go_sem, plSameFact_L1, e22, e23, eq_false (show ¬ (k : Int) < (l.length : Nat) by omega)]
    exact hK'
  obtain ⟨x, hx⟩ : ∃ x, l[k]? = some x := ⟨l[k], by simp [hlt]⟩
  obtain ⟨pb, po, rfl, hpb, hpu, hpz, hpr⟩ := jv.row k x hx
  obtain ⟨qb, qo, rfl, hqb, hqu, hqz, hqr⟩ := jw.row k x hx
  rw [rep_const] at hpr hqr
  simp only [sz_const, hvs_3, List.cons.injEq, and_true] at hpr hpu hpz hqr hqu hqz
  obtain ⟨p0, p1, p2⟩ := hpr
  obtain ⟨q0, q1, q2⟩ := hqr
  simp (disch := first | omega | (simp only [e_ssz, e_psz, e_hszs, List.length_cons, List.length_nil]; try omega; done)) only [↓reduceIte, go_sem, plSameFact_L1, e2, e3, e22, e23, eq_true (show (k : Int) < (l.length : Nat) by omega), B1.at, B1.2.1, B2'.at, B2'.2.1, p0, p1, p2, q0, q1, q2]
  refine ⟨k + 1, ?_, by omega⟩
  rw [hI]
  refine ⟨?_, ?_, ?_, ?_, hlt, rfl⟩ <;> simp [upd, e2, e3, e22]
def resOne (src : List UInt8) : List UInt8 × List ConstT × Flt := match parseF oneD src with | .error e => ([], [], e) | .ok a => (a.1, a.2.1.map constD, (0, 0))
def C_pFactU (vs : List Value) (h : H) (K : Value → H → Prop) : Prop := ∃ (u : U) (src : List UInt8), vs = [str src] ∧ src.length ≤ 9223372036854775807 ∧ LxG u h ∧ ∀ u' h' w, Step S0 u h u' h' → Own h.size u' h' w (resOne src).2.1 → K (.tuple #[.agg #[str (resOne src).1, w], fltV (resOne src).2.2]) h'
def C_rFactU (vs : List Value) (h : H) (K : Value → H → Prop) : Prop := ∃ (u : U) (src : List UInt8), vs = [str src] ∧ src.length ≤ 9223372036854775807 ∧ ∀ u' h' w, Step S0 u h u' h' → Own h.size u' h' w (resOne src).2.1 → K (.tuple #[.agg #[str (resOne src).1, w], fltV (resOne src).2.2]) h'
theorem psFactU_ok {vs : List Value} {h : H} {K : Value → H → Prop} {KP : List PanicEntry → H → Prop} (hC : C_pFactU vs h K) : HCX Tryd.prog 19 vs h K KP := by
  obtain ⟨u, src, rfl, hl, hG, hK⟩ := hC
  refine psFact_ok ⟨u, src, rfl, hl, hG, fun e he u' h' s => ?_, fun a ha u' h' w s o => ?_⟩
  · have hr : resOne src = ([], [], e) := by unfold resOne; rw [he]
    rw [hr] at hK
    exact hK u' h' _ s (.nil _ _ _)
  · have hr : resOne src = (a.1, a.2.1.map constD, (0, 0)) := by unfold resOne; rw [ha]
    rw [hr] at hK
    exact hK u' h' _ s o
theorem rpFactU_ok {vs : List Value} {h : H} {K : Value → H → Prop} {KP : List PanicEntry → H → Prop} (hC : C_rFactU vs h K) : HCX Tryd.prog 20 vs h K KP := by
  obtain ⟨u, src, rfl, hl, hK⟩ := hC
  refine rpFact_ok ⟨u, src, rfl, hl, fun e he u' h' s => ?_, fun a ha u' h' w s o => ?_⟩
  · have hr : resOne src = ([], [], e) := by unfold resOne; rw [he]
    rw [hr] at hK
    exact hK u' h' _ s (.nil _ _ _)
  · have hr : resOne src = (a.1, a.2.1.map constD, (0, 0)) := by unfold resOne; rw [ha]
    rw [hr] at hK
    exact hK u' h' _ s o
def C_law1 (vs : List Value) (h : H) (K : Value → H → Prop) : Prop := ∃ (u : U) (s : List UInt8), vs = [str s] ∧ s.length ≤ 9223372036854775807 ∧ LxG u h ∧ ∀ u' h', Step S0 u h u' h' → K (.bool true) h'
def G_Ones : Ctr := fun f vs h K _ => (f = 19 ∧ C_pFactU vs h K) ∨ (f = 20 ∧ C_rFactU vs h K) ∨ (f = 21 ∧ C_sFact vs h K)
theorem G_Ones_ok : GOk Tryd.prog G_Ones := by
  rintro f vs h K KP (⟨rfl, hC⟩ | ⟨rfl, hC⟩ | ⟨rfl, hC⟩)
  · exact psFactU_ok hC
  · exact rpFactU_ok hC
  · exact plSameFact_ok hC
theorem ParseOnes_ok {vs : List Value} {h : H} {K : Value → H → Prop} {KP : List PanicEntry → H → Prop} (hC : C_law1 vs h K) : HCX Tryd.prog 3 vs h K KP := by
  obtain ⟨u, src, rfl, hl, hG, hK⟩ := hC
  refine ParseOnes_H G_Ones G_Ones_ok _ ?_
  simp (disch := first | omega | (simp only [e_ssz, e_psz, e_hszs, List.length_cons, List.length_nil]; try omega; done)) only [↓reduceIte, go_sem, ParseOnes_S, ParseOnes_E]
  refine effS_call (.inl ⟨rfl, u, src, rfl, hl, hG, fun u1 h1 w1 s1 o1 => ⟨by simp (disch := first | omega | (simp only [e_ssz, e_psz, e_hszs, List.length_cons, List.length_nil]; try omega; done)) only [go_sem], ?_⟩⟩)
  obtain ⟨pr, hpr⟩ : ∃ pr, pr = (resOne src).1 := ⟨_, rfl⟩
  obtain ⟨l, hl'⟩ : ∃ l, l = (resOne src).2.1 := ⟨_, rfl⟩
  obtain ⟨f, hf⟩ : ∃ f, f = (resOne src).2.2 := ⟨_, rfl⟩
  rw [← hl'] at o1
  rw [← hpr, ← hf]
  obtain ⟨a1, c1, rfl, m1, m2⟩ := o1.sl
  simp only [fltV]
  simp (disch := first | omega | (simp only [e_ssz, e_psz, e_hszs, List.length_cons, List.length_nil]; try omega; done)) only [↓reduceIte, go_sem]
  have sA := (Step.push0 S0 u1 h1 #[str pr, .slice a1 l.length c1] 24).trans0 (Step.push0 S0 _ _ #[.int .i64 f.1, .int .i64 0, .int .i64 f.2] 27)
  have B1 := (Blk.new (u := u1) (h := h1) [str pr, .slice a1 l.length c1] 24).pushR (c := #[.int .i64 f.1, .int .i64 0, .int .i64 f.2]) (t := 27)
  have B2 := Blk.new (u := ub u1 h1.size 0) (h := h1.push (.cells #[str pr, .slice a1 l.length c1] 24)) [.int .i64 f.1, .int .i64 0, .int .i64 f.2] 27
  have i2 := o1.isSl.mono sA.ge
  obtain ⟨h2, hh2⟩ : ∃ h2, h2 = (h1.push (.cells #[str pr, .slice a1 l.length c1] 24)).push (.cells #[.int .i64 f.1, .int .i64 0, .int .i64 f.2] 27) := ⟨_, rfl⟩
  obtain ⟨u2, hu2⟩ : ∃ u2, u2 = ub (ub u1 h1.size 0) (h1.push (.cells #[str pr, .slice a1 l.length c1] 24)).size 0 := ⟨_, rfl⟩
  have B2' : Blk u2 h2 (h1.size + 1) [.int .i64 f.1, .int .i64 0, .int .i64 f.2] := by rw [hu2, hh2]; simpa using B2
  rw [← hh2, ← hu2] at B1 i2 sA
  rw [← hh2]
  clear B2 hh2 hu2
  have st2 := s1.trans0 sA
  refine effS_call (.inr (.inl ⟨rfl, u2, src, rfl, hl, fun u3 h3 w3 s3 o3 => ⟨by simp (disch := first | omega | (simp only [e_ssz, e_psz, e_hszs, List.length_cons, List.length_nil]; try omega; done)) only [go_sem], ?_⟩⟩))
  rw [← hl'] at o3
  rw [← hpr, ← hf]
  obtain ⟨a3, c3, rfl, n1, n2⟩ := o3.sl
  have B13 := B1.step0 s3
  have B23 := B2'.step0 s3
  have i3 := i2.mono s3.ge
  have st3 := st2.trans0 s3
  simp only [fltV]
  have sB := (Step.push0 S0 u3 h3 #[str pr, .slice a3 l.length c3] 24).trans0 (Step.push0 S0 _ _ #[.int .i64 f.1, .int .i64 0, .int .i64 f.2] 27)
  have D1 := (Blk.new (u := u3) (h := h3) [str pr, .slice a3 l.length c3] 24).pushR (c := #[.int .i64 f.1, .int .i64 0, .int .i64 f.2]) (t := 27)
  have D2 := Blk.new (u := ub u3 h3.size 0) (h := h3.push (.cells #[str pr, .slice a3 l.length c3] 24)) [.int .i64 f.1, .int .i64 0, .int .i64 f.2] 27
  obtain ⟨h4, hh4⟩ : ∃ h4, h4 = (h3.push (.cells #[str pr, .slice a3 l.length c3] 24)).push (.cells #[.int .i64 f.1, .int .i64 0, .int .i64 f.2] 27) := ⟨_, rfl⟩
  obtain ⟨u4, hu4⟩ : ∃ u4, u4 = ub (ub u3 h3.size 0) (h3.push (.cells #[str pr, .slice a3 l.length c3] 24)).size 0 := ⟨_, rfl⟩
  have D2' : Blk u4 h4 (h3.size + 1) [.int .i64 f.1, .int .i64 0, .int .i64 f.2] := by rw [hu4, hh4]; simpa using D2
  rw [← hh4, ← hu4] at D1 sB
  clear D2
  have B14 := B13.step0 sB
  have B24 := B23.step0 sB
  have i4 := i3.mono sB.ge
  have j4 := o3.isSl.mono sB.ge
  have st4 := st3.trans0 sB
  have x1 := B14.1
  have x2 := B24.1
  have x3 := D1.1
  have x4 := D2'.1
  simp (disch := first | omega | (simp only [e_ssz, e_psz, e_hszs, List.length_cons, List.length_nil]; try omega; done)) only [↓reduceIte, go_sem, ← hh4, B14.at, B14.2.1, B24.at, B24.2.1, D1.at, D1.2.1, D2'.at, D2'.2.1]
  refine effS_call (.inr (.inr ⟨rfl, u4, pr, _, _, l, rfl, i4, j4, fun u5 h5 s5 => ⟨by simp (disch := first | omega | (simp only [e_ssz, e_psz, e_hszs, List.length_cons, List.length_nil]; try omega; done)) only [go_sem], ?_⟩⟩))
  simp (disch := first | omega | (simp only [e_ssz, e_psz, e_hszs, List.length_cons, List.length_nil]; try omega; done)) only [↓reduceIte, go_sem]
  exact hK _ _ (st4.trans0 s5)
theorem ParseOnes_hc {s : List UInt8} {h : H} (hl : s.length ≤ 9223372036854775807) (hG : LxG (hsz h) h) : HCX Tryd.prog 3 [str s] h (fun v h' => v = .bool true ∧ Ext0 h h') fun _ _ => False :=
  ParseOnes_ok ⟨hsz h, s, rfl, hl, hG, fun u' h' st => ⟨rfl, st.ext⟩⟩
end Go.Proofs.YtmnfhmbmifompaaDoor
