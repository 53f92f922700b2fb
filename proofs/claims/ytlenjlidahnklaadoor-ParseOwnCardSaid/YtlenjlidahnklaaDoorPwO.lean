/- The law ParseOwn. -/
import Derived.Test.YtlenjlidahnklaaDoorPwN
namespace Go.Ev
open Go Rep Edict HasTags
/-- Only blocks of P are looked at. -/
def rest (P : Nat → Prop) [DecidablePred P] (u : U) : U := fun b => if P b then u b else 0
class Rst (α : Type) [Rep α] [HasTags α] : Prop where
  rst : ∀ {P : Nat → Prop} [DecidablePred P] {u : U} {h : H} {x : α} {cs : List Value}, rep u h x cs → (∀ n, 0 < (tags x).count n → P n) → rep (rest P u) h x cs
instance : Rst Int := ⟨fun r _ => r⟩
instance : Rst (List UInt8) := ⟨fun r _ => r⟩
instance {α β : Type} [Rep α] [HasTags α] [Rst α] [Rep β] [HasTags β] [Rst β] : Rst (α × β) := ⟨fun {P _ u h x cs} r hP => by
  obtain ⟨c1, c2, e, r1, r2⟩ := r
  have hP' : ∀ n, 0 < (tags x.1 ++ tags x.2).count n → P n := hP
  exact ⟨c1, c2, e, Rst.rst r1 (fun n q => hP' n (by rw [List.count_append]; omega)), Rst.rst r2 (fun n q => hP' n (by rw [List.count_append]; omega))⟩⟩
instance {α : Type} [Rep α] [HasTags α] [Rst α] : Rst (SlG α) := ⟨fun {P _ u h x cs} r hP => by
  obtain ⟨v, e, i, rm, le⟩ := r
  have hP' : ∀ n, 0 < (x.l.flatMap tags ++ x.t.toList).count n → P n := hP
  refine ⟨v, e, ?_, rm, le⟩
  obtain ⟨a, n, c, e1, h1, h2, h3, h4, h5⟩ := i
  refine ⟨a, n, c, e1, h1, h2, h3, h4, fun hne => ?_⟩
  obtain ⟨b, o, k1, k2, k3, k4, k5⟩ := h5 hne
  have hb : P b := by
    have ht : x.t = some b := by
      unfold Room at rm
      split at rm
      · rw [e1, k1] at rm; cases rm.1
      · obtain ⟨c', e', -⟩ := rm; rw [e1, k1] at e'; cases e'; assumption
    exact hP' b (by rw [ht, List.count_append]; simp)
  refine ⟨b, o, k1, k2, by unfold rest; rw [if_pos hb]; exact k3, k4, fun j y hy => ?_⟩
  refine Rst.rst (k5 j y hy) (fun n q => hP' n ?_)
  rw [List.count_append]
  have : 0 < (x.l.flatMap tags).count n := by
    rw [List.count_pos_iff] at q ⊢
    exact List.mem_flatMap.2 ⟨y, List.mem_of_getElem? hy, q⟩
  omega⟩
theorem rst_keep {α : Type} [Rep α] [HasTags α] [Rst α] {u : U} {h h' : H} {x : α} {cs : List Value} (r : rep u h x cs) (z1 : h.size ≤ h'.size) (z2 : ∀ j, j < h.size → hsz h' j = hsz h j ∧ hfr h' j = hfr h j) (z3 : ∀ n, n < h.size → 0 < (tags x).count n → h'[n]? = h[n]?) : ∃ u', rep u' h' x cs := by
  refine ⟨rest (fun n => 0 < (tags x).count n) u, Rep.mono ⟨z1, fun _ _ => Nat.le_refl _, z2, fun b hb o ho => ?_⟩ (Rst.rst r (fun _ q => q))⟩
  unfold rest at ho
  split at ho
  · unfold Go.Ev.hv hc; rw [z3 b hb (by assumption)]
  · omega
theorem ext_trans {h h1 h2 : H} (a : Ext0 h h1) (b : Ext0 h1 h2) : Ext0 h h2 := ⟨Nat.le_trans a.1 b.1, fun i hi => (b.2 i (Nat.lt_of_lt_of_le hi a.1)).trans (a.2 i hi)⟩
theorem ge_ext {u : U} {h h' : H} (e : Ext0 h h') : Ge u h u h' := by
  obtain ⟨e1, e2⟩ := e
  refine ⟨e1, fun _ _ => Nat.le_refl _, fun b hb => ?_, fun b hb o _ => ?_⟩
  · unfold hsz hfr; rw [e2 b hb]; exact ⟨rfl, rfl⟩
  · unfold Go.Ev.hv hc; rw [e2 b hb]
theorem ge_up {u u' : U} {h : H} (e : ∀ b, u b ≤ u' b) : Ge u h u' h := ⟨Nat.le_refl _, fun b _ => e b, fun _ _ => ⟨rfl, rfl⟩, fun _ _ _ _ => rfl⟩
def z0 : U := fun _ => 0
theorem Blk.zero {u : U} {h : H} {b : Nat} {cs : List Value} (k : Blk u h b cs) : Blk z0 h b cs := ⟨k.1, k.2.1, k.2.2.1, rfl, k.2.2.2.2⟩
theorem Blk.same {u : U} {h h' : H} {b : Nat} {cs : List Value} (k : Blk u h b cs) (hs : h.size ≤ h'.size) (e : h'[b]? = h[b]?) : Blk u h' b cs := by
  obtain ⟨k1, k2, k3, k4, k5⟩ := k
  refine ⟨Nat.lt_of_lt_of_le k1 hs, ?_, ?_, k4, fun i v hv => ?_⟩
  · unfold hsz; rw [e]; exact k2
  · unfold hfr; rw [e]; exact k3
  · unfold Go.Ev.hv hc; rw [e]; exact k5 i v hv
/-- The rooms of a book's list. -/
def toRm {α : Type} (s : Nat) (g : SlG α) : RmE s := ⟨g.l.length, g.t⟩
theorem rtags_rm {α : Type} {s : Nat} (L : List (SlG α)) : rtags (L.map (toRm s)) = otags L := by
  unfold rtags otags
  rw [List.flatMap_map]; rfl
theorem rm_all {α : Type} [Rep α] {s p : Nat} {k9 : Bool} {u u' : U} {h : H} {v : Value} {L : List (SlG α)} (hs : sz α = s + 1) (i : IsSl u h v L) (hu : ∀ b, OwnB v b → u' b = u b) :
    IsSl u' h v (L.map (toRm s)) ∧ WF s p k9 h (L.map (toRm s)) 0 ∧ InH h (L.map (toRm s)) ∧ (∀ g ∈ L.map (toRm s), g.n ≤ 5000) := by
  have el : ∀ g ∈ L, ∃ cs, rep u h g cs := fun g hg => isSl_mem i hg
  refine ⟨?_, fun j x hx => ?_, fun x hx b hb => ?_, fun x hx => ?_⟩
  · obtain ⟨a, n, c, e, h1, h2, h3, h4, h5⟩ := i
    refine ⟨a, n, c, e, by rw [List.length_map]; exact h1, h2, h3, h4, fun hne => ?_⟩
    obtain ⟨b, o, k1, k2, k3, k4, k5⟩ := h5 (fun q => hne (by rw [q]; rfl))
    have hz : sz (RmE s) = 1 := rfl
    have hz' : sz (SlG α) = 1 := rfl
    rw [hz'] at k3 k4 k5
    refine ⟨b, o, k1, k2, by rw [List.length_map, hz, hu b (by rw [e, k1]; exact ⟨_, _, _, rfl⟩)]; exact k3, by rw [List.length_map, hz]; exact k4, fun j y hy => ?_⟩
    rw [List.getElem?_map] at hy
    rw [hz]
    cases hg : L[j]? with
    | none => rw [hg] at hy; cases hy
    | some g =>
      rw [hg] at hy
      cases hy
      obtain ⟨w, ew, -, rm, -⟩ := k5 j g hg
      exact ⟨w, ew, by rw [← hs]; exact rm⟩
  · rw [List.getElem?_map] at hx
    cases hg : L[j]? with
    | none => rw [hg] at hx; cases hx
    | some g =>
      rw [hg] at hx
      cases hx
      rw [if_neg (Nat.not_lt_zero _)]
      obtain ⟨cs, w, -, iw, rm, -⟩ := el g (List.mem_of_getElem? hg)
      intro b hb q hq
      have hb : g.t = some b := hb
      have hq : q < g.l.length := hq
      rw [hb] at rm
      obtain ⟨c, rfl, -⟩ := rm
      obtain ⟨x, hx⟩ : ∃ x, g.l[q]? = some x := ⟨g.l[q], by simp [hq]⟩
      obtain ⟨b', o', e', -, -, -, r'⟩ := iw.row q x hx
      cases e'
      have := Rep.ok r'
      rw [Nat.zero_add, hs] at this
      exact this
  · obtain ⟨g, hg, rfl⟩ := List.mem_map.1 hx
    obtain ⟨cs, w, -, iw, rm, -⟩ := el g hg
    have hb : g.t = some b := hb
    rw [hb] at rm
    obtain ⟨c, -, -, -, r4, -⟩ := rm
    exact r4
  · obtain ⟨g, hg, rfl⟩ := List.mem_map.1 hx
    obtain ⟨cs, r⟩ := el g hg
    exact slg_le r
end Go.Ev
namespace Go.Proofs.YtlenjlidahnklaaDoor
open Go Go.Ev Edict HasTags
theorem BkFin.keep {u : U} {h h' : H} {bb : Nat} {L0 : List (RmE 3)} {L2 : List (RmE 13)} {L4 : List (RmE 3)} {L6 : List (RmE 2)} {L8 : List (RmE 2)} {v0 w1 v2 w3 v4 w5 v6 w7 v8 w9 : Value} (f : BkFin u h bb L0 L2 L4 L6 L8 v0 w1 v2 w3 v4 w5 v6 w7 v8 w9) (e : Ext0 h h') : BkFin u h' bb L0 L2 L4 L6 L8 v0 w1 v2 w3 v4 w5 v6 w7 v8 w9 := by
  have g := ge_ext (u := u) e
  obtain ⟨B, a1, b1, a2, b2, a3, b3, a4, b4, a5, b5⟩ := f
  exact ⟨B.same e.1 (e.2 bb B.1), a1.mono g, b1.mono g, a2.mono g, b2.mono g, a3.mono g, b3.mono g, a4.mono g, b4.mono g, a5.mono g, b5.mono g⟩
def C_own (vs : List Value) (h : H) (K : Value → H → Prop) : Prop := ∃ (u : U) (s t : List UInt8), vs = [str s, str t] ∧ s.length ≤ 9223372036854775807 ∧ t.length ≤ 9223372036854775807 ∧ LxG u h ∧ ∀ h', Ext0 h h' → K (.bool true) h'
def G_own : Ctr := fun f vs h K _ => (f = 4 ∧ C_asked vs h K) ∨ (f = 5 ∧ C_deep vs h K) ∨ (f = 6 ∧ C_same vs h K) ∨ (f = 7 ∧ C_add vs h K) ∨ (f = 8 ∧ C_write vs h K) ∨ (f = 9 ∧ C_stands vs h K) ∨ (f = 10 ∧ C_taken vs h K)
theorem G_own_ok : GOk Tryd.prog G_own := by
  rintro f vs h K KP (⟨rfl, hC⟩ | ⟨rfl, hC⟩ | ⟨rfl, hC⟩ | ⟨rfl, hC⟩ | ⟨rfl, hC⟩ | ⟨rfl, hC⟩ | ⟨rfl, hC⟩)
  · exact owAsked_ok hC
  · exact owDeep_ok hC
  · exact owSame_ok hC
  · exact owAdd_ok hC
  · exact owWrite_ok hC
  · exact owStands_ok hC
  · exact plTaken_ok hC
set_option maxHeartbeats 8000000 in
theorem owLaw_ok {vs : List Value} {h : H} {K : Value → H → Prop} {KP : List PanicEntry → H → Prop} (hC : C_own vs h K) : HCX Tryd.prog 3 vs h K KP := by
  obtain ⟨u, s, t, rfl, hls, hlt, hG, hK⟩ := hC
  refine owLaw_H G_own G_own_ok _ _ ?_
  obtain ⟨A, hA⟩ : ∃ A, A = ansF s t := ⟨_, rfl⟩
  obtain ⟨Z, hZ⟩ : ∃ Z, Z = ansF t s := ⟨_, rfl⟩
  simp (disch := first | omega | (simp only [e_ssz, e_psz, e_hszs, List.length_cons, List.length_nil]; try omega; done)) only [↓reduceIte, go_sem, owLaw_S, owLaw_E]
  -- 1: asked
  refine effS_call (.inl ⟨rfl, u, s, t, rfl, hls, hlt, hG, fun u1 h1 g1 x1 x2 x3 x4 s1 r1 t1 e1 => ⟨by simp (disch := first | omega | (simp only [e_ssz, e_psz, e_hszs, List.length_cons, List.length_nil]; try omega; done)) only [go_sem], ?_⟩⟩)
  rw [← hA] at e1
  have f1 : g1.2.1 = A.2.1 := by rw [← e1]; rfl
  have n1 : g1.2.2.2.2.1 = A.2.2.2.2.1 := by rw [← e1]; rfl
  obtain ⟨q1, q2, q3, q4⟩ := rep_ansG_sl r1
  obtain ⟨a11, c11, rfl⟩ := slg_sl q1
  obtain ⟨a12, c12, rfl⟩ := slg_sl q2
  obtain ⟨a13, c13, rfl⟩ := slg_sl q3
  obtain ⟨a14, c14, rfl⟩ := slg_sl q4
  have smA : Sm A := by rw [← e1]; exact sm_ans r1
  rw [f1, n1] at r1 ⊢
  clear q1 q2 q3 q4
  simp only [ansE]
  have p1 := Step.push0 S0 u1 h1 #[.slice a11 g1.1.l.length c11, .int .i64 A.2.1.1, .int .i64 A.2.1.2.1, .int .i64 A.2.1.2.2, .slice a12 g1.2.2.1.l.length c12, .slice a13 g1.2.2.2.1.l.length c13, str A.2.2.2.2.1, .slice a14 g1.2.2.2.2.2.l.length c14] 34
  have B1 := Blk.new (u := u1) (h := h1) [.slice a11 g1.1.l.length c11, .int .i64 A.2.1.1, .int .i64 A.2.1.2.1, .int .i64 A.2.1.2.2, .slice a12 g1.2.2.1.l.length c12, .slice a13 g1.2.2.2.1.l.length c13, str A.2.2.2.2.1, .slice a14 g1.2.2.2.2.2.l.length c14] 34
  obtain ⟨j1, hj1⟩ : ∃ x, x = h1.push (.cells #[.slice a11 g1.1.l.length c11, .int .i64 A.2.1.1, .int .i64 A.2.1.2.1, .int .i64 A.2.1.2.2, .slice a12 g1.2.2.1.l.length c12, .slice a13 g1.2.2.2.1.l.length c13, str A.2.2.2.2.1, .slice a14 g1.2.2.2.2.2.l.length c14] 34) := ⟨_, rfl⟩
  obtain ⟨w1, hw1⟩ : ∃ x, x = ub u1 h1.size 0 := ⟨_, rfl⟩
  have B1 : Blk w1 j1 h1.size [.slice a11 g1.1.l.length c11, .int .i64 A.2.1.1, .int .i64 A.2.1.2.1, .int .i64 A.2.1.2.2, .slice a12 g1.2.2.1.l.length c12, .slice a13 g1.2.2.2.1.l.length c13, str A.2.2.2.2.1, .slice a14 g1.2.2.2.2.2.l.length c14] := by rw [hw1, hj1]; exact B1
  rw [← hj1, ← hw1] at p1
  have zj1 : j1.size = h1.size + 1 := by rw [hj1]; simp
  have sp1 := s1.trans0 p1
  have st1 := sp1
  have zs1 := s1.ge.sz
  have r1 := Rep.mono p1.ge r1
  have rT1 : Rep.rep w1 j1 A (ansE A.2.1 A.2.2.2.2.1 (.slice a11 g1.1.l.length c11) (.slice a12 g1.2.2.1.l.length c12) (.slice a13 g1.2.2.2.1.l.length c13) (.slice a14 g1.2.2.2.2.2.l.length c14)) := by rw [← f1, ← n1] at r1; have := rep_pAns r1; rw [e1, f1, n1] at this; exact this
  have B11 := B1.1
  simp (disch := first | omega | (simp only [e_ssz, e_psz, e_hszs, List.length_cons, List.length_nil]; try omega; done)) only [↓reduceIte, go_sem, ← hj1, B1.at, B1.2.1]
  clear hj1 hw1
  -- 2: deep
  refine effS_call (.inr (.inl ⟨rfl, w1, A, _, _, _, _, rfl, rT1, smA, fun u2 h2 g2 x1 x2 x3 x4 s2 r2 t2 e2 => ⟨by simp (disch := first | omega | (simp only [e_ssz, e_psz, e_hszs, List.length_cons, List.length_nil]; try omega; done)) only [go_sem], ?_⟩⟩))
  have f2 : g2.2.1 = A.2.1 := by rw [← e2]; rfl
  have n2 : g2.2.2.2.2.1 = A.2.2.2.2.1 := by rw [← e2]; rfl
  obtain ⟨q1, q2, q3, q4⟩ := rep_ansG_sl r2
  obtain ⟨a21, c21, rfl⟩ := slg_sl q1
  obtain ⟨a22, c22, rfl⟩ := slg_sl q2
  obtain ⟨a23, c23, rfl⟩ := slg_sl q3
  obtain ⟨a24, c24, rfl⟩ := slg_sl q4
  rw [f2, n2] at r2 ⊢
  clear q1 q2 q3 q4
  simp only [ansE]
  have p2 := Step.push0 S0 u2 h2 #[.slice a21 g2.1.l.length c21, .int .i64 A.2.1.1, .int .i64 A.2.1.2.1, .int .i64 A.2.1.2.2, .slice a22 g2.2.2.1.l.length c22, .slice a23 g2.2.2.2.1.l.length c23, str A.2.2.2.2.1, .slice a24 g2.2.2.2.2.2.l.length c24] 34
  have B2 := Blk.new (u := u2) (h := h2) [.slice a21 g2.1.l.length c21, .int .i64 A.2.1.1, .int .i64 A.2.1.2.1, .int .i64 A.2.1.2.2, .slice a22 g2.2.2.1.l.length c22, .slice a23 g2.2.2.2.1.l.length c23, str A.2.2.2.2.1, .slice a24 g2.2.2.2.2.2.l.length c24] 34
  obtain ⟨j2, hj2⟩ : ∃ x, x = h2.push (.cells #[.slice a21 g2.1.l.length c21, .int .i64 A.2.1.1, .int .i64 A.2.1.2.1, .int .i64 A.2.1.2.2, .slice a22 g2.2.2.1.l.length c22, .slice a23 g2.2.2.2.1.l.length c23, str A.2.2.2.2.1, .slice a24 g2.2.2.2.2.2.l.length c24] 34) := ⟨_, rfl⟩
  obtain ⟨w2, hw2⟩ : ∃ x, x = ub u2 h2.size 0 := ⟨_, rfl⟩
  have B2 : Blk w2 j2 h2.size [.slice a21 g2.1.l.length c21, .int .i64 A.2.1.1, .int .i64 A.2.1.2.1, .int .i64 A.2.1.2.2, .slice a22 g2.2.2.1.l.length c22, .slice a23 g2.2.2.2.1.l.length c23, str A.2.2.2.2.1, .slice a24 g2.2.2.2.2.2.l.length c24] := by rw [hw2, hj2]; exact B2
  rw [← hj2, ← hw2] at p2
  have zj2 : j2.size = h2.size + 1 := by rw [hj2]; simp
  have sp2 := s2.trans0 p2
  have st2 := st1.trans0 sp2
  have zs2 := s2.ge.sz
  have r2 := Rep.mono p2.ge r2
  have rT2 : Rep.rep w2 j2 A (ansE A.2.1 A.2.2.2.2.1 (.slice a21 g2.1.l.length c21) (.slice a22 g2.2.2.1.l.length c22) (.slice a23 g2.2.2.2.1.l.length c23) (.slice a24 g2.2.2.2.2.2.l.length c24)) := by rw [← f2, ← n2] at r2; have := rep_pAns r2; rw [e2, f2, n2] at this; exact this
  have B1 := B1.step0 sp2
  have r1 := Rep.mono sp2.ge r1
  have rT1 := Rep.mono sp2.ge rT1
  have B21 := B2.1
  simp (disch := first | omega | (simp only [e_ssz, e_psz, e_hszs, List.length_cons, List.length_nil]; try omega; done)) only [↓reduceIte, go_sem, ← hj2]
  clear hj2 hw2
  -- 3: asked
  refine effS_call (.inl ⟨rfl, w2, s, t, rfl, hls, hlt, (hG.mono st2.ge), fun u3 h3 g3 x1 x2 x3 x4 s3 r3 t3 e3 => ⟨by simp (disch := first | omega | (simp only [e_ssz, e_psz, e_hszs, List.length_cons, List.length_nil]; try omega; done)) only [go_sem], ?_⟩⟩)
  rw [← hA] at e3
  have f3 : g3.2.1 = A.2.1 := by rw [← e3]; rfl
  have n3 : g3.2.2.2.2.1 = A.2.2.2.2.1 := by rw [← e3]; rfl
  obtain ⟨q1, q2, q3, q4⟩ := rep_ansG_sl r3
  obtain ⟨a31, c31, rfl⟩ := slg_sl q1
  obtain ⟨a32, c32, rfl⟩ := slg_sl q2
  obtain ⟨a33, c33, rfl⟩ := slg_sl q3
  obtain ⟨a34, c34, rfl⟩ := slg_sl q4
  rw [f3, n3] at r3 ⊢
  clear q1 q2 q3 q4
  simp only [ansE]
  have p3 := Step.push0 S0 u3 h3 #[.slice a31 g3.1.l.length c31, .int .i64 A.2.1.1, .int .i64 A.2.1.2.1, .int .i64 A.2.1.2.2, .slice a32 g3.2.2.1.l.length c32, .slice a33 g3.2.2.2.1.l.length c33, str A.2.2.2.2.1, .slice a34 g3.2.2.2.2.2.l.length c34] 34
  have B3 := Blk.new (u := u3) (h := h3) [.slice a31 g3.1.l.length c31, .int .i64 A.2.1.1, .int .i64 A.2.1.2.1, .int .i64 A.2.1.2.2, .slice a32 g3.2.2.1.l.length c32, .slice a33 g3.2.2.2.1.l.length c33, str A.2.2.2.2.1, .slice a34 g3.2.2.2.2.2.l.length c34] 34
  obtain ⟨j3, hj3⟩ : ∃ x, x = h3.push (.cells #[.slice a31 g3.1.l.length c31, .int .i64 A.2.1.1, .int .i64 A.2.1.2.1, .int .i64 A.2.1.2.2, .slice a32 g3.2.2.1.l.length c32, .slice a33 g3.2.2.2.1.l.length c33, str A.2.2.2.2.1, .slice a34 g3.2.2.2.2.2.l.length c34] 34) := ⟨_, rfl⟩
  obtain ⟨w3, hw3⟩ : ∃ x, x = ub u3 h3.size 0 := ⟨_, rfl⟩
  have B3 : Blk w3 j3 h3.size [.slice a31 g3.1.l.length c31, .int .i64 A.2.1.1, .int .i64 A.2.1.2.1, .int .i64 A.2.1.2.2, .slice a32 g3.2.2.1.l.length c32, .slice a33 g3.2.2.2.1.l.length c33, str A.2.2.2.2.1, .slice a34 g3.2.2.2.2.2.l.length c34] := by rw [hw3, hj3]; exact B3
  rw [← hj3, ← hw3] at p3
  have zj3 : j3.size = h3.size + 1 := by rw [hj3]; simp
  have sp3 := s3.trans0 p3
  have st3 := st2.trans0 sp3
  have zs3 := s3.ge.sz
  have r3 := Rep.mono p3.ge r3
  have rT3 : Rep.rep w3 j3 A (ansE A.2.1 A.2.2.2.2.1 (.slice a31 g3.1.l.length c31) (.slice a32 g3.2.2.1.l.length c32) (.slice a33 g3.2.2.2.1.l.length c33) (.slice a34 g3.2.2.2.2.2.l.length c34)) := by rw [← f3, ← n3] at r3; have := rep_pAns r3; rw [e3, f3, n3] at this; exact this
  have B1 := B1.step0 sp3
  have r1 := Rep.mono sp3.ge r1
  have rT1 := Rep.mono sp3.ge rT1
  have B2 := B2.step0 sp3
  have r2 := Rep.mono sp3.ge r2
  have rT2 := Rep.mono sp3.ge rT2
  have B31 := B3.1
  simp (disch := first | omega | (simp only [e_ssz, e_psz, e_hszs, List.length_cons, List.length_nil]; try omega; done)) only [↓reduceIte, go_sem, ← hj3]
  clear hj3 hw3
  -- 4: asked
  refine effS_call (.inl ⟨rfl, w3, t, s, rfl, hlt, hls, (hG.mono st3.ge), fun u4 h4 g4 x1 x2 x3 x4 s4 r4 t4 e4 => ⟨by simp (disch := first | omega | (simp only [e_ssz, e_psz, e_hszs, List.length_cons, List.length_nil]; try omega; done)) only [go_sem], ?_⟩⟩)
  rw [← hZ] at e4
  have f4 : g4.2.1 = Z.2.1 := by rw [← e4]; rfl
  have n4 : g4.2.2.2.2.1 = Z.2.2.2.2.1 := by rw [← e4]; rfl
  obtain ⟨q1, q2, q3, q4⟩ := rep_ansG_sl r4
  obtain ⟨a41, c41, rfl⟩ := slg_sl q1
  obtain ⟨a42, c42, rfl⟩ := slg_sl q2
  obtain ⟨a43, c43, rfl⟩ := slg_sl q3
  obtain ⟨a44, c44, rfl⟩ := slg_sl q4
  have smZ : Sm Z := by rw [← e4]; exact sm_ans r4
  rw [f4, n4] at r4 ⊢
  clear q1 q2 q3 q4
  simp only [ansE]
  have p4 := Step.push0 S0 u4 h4 #[.slice a41 g4.1.l.length c41, .int .i64 Z.2.1.1, .int .i64 Z.2.1.2.1, .int .i64 Z.2.1.2.2, .slice a42 g4.2.2.1.l.length c42, .slice a43 g4.2.2.2.1.l.length c43, str Z.2.2.2.2.1, .slice a44 g4.2.2.2.2.2.l.length c44] 34
  have B4 := Blk.new (u := u4) (h := h4) [.slice a41 g4.1.l.length c41, .int .i64 Z.2.1.1, .int .i64 Z.2.1.2.1, .int .i64 Z.2.1.2.2, .slice a42 g4.2.2.1.l.length c42, .slice a43 g4.2.2.2.1.l.length c43, str Z.2.2.2.2.1, .slice a44 g4.2.2.2.2.2.l.length c44] 34
  obtain ⟨j4, hj4⟩ : ∃ x, x = h4.push (.cells #[.slice a41 g4.1.l.length c41, .int .i64 Z.2.1.1, .int .i64 Z.2.1.2.1, .int .i64 Z.2.1.2.2, .slice a42 g4.2.2.1.l.length c42, .slice a43 g4.2.2.2.1.l.length c43, str Z.2.2.2.2.1, .slice a44 g4.2.2.2.2.2.l.length c44] 34) := ⟨_, rfl⟩
  obtain ⟨w4, hw4⟩ : ∃ x, x = ub u4 h4.size 0 := ⟨_, rfl⟩
  have B4 : Blk w4 j4 h4.size [.slice a41 g4.1.l.length c41, .int .i64 Z.2.1.1, .int .i64 Z.2.1.2.1, .int .i64 Z.2.1.2.2, .slice a42 g4.2.2.1.l.length c42, .slice a43 g4.2.2.2.1.l.length c43, str Z.2.2.2.2.1, .slice a44 g4.2.2.2.2.2.l.length c44] := by rw [hw4, hj4]; exact B4
  rw [← hj4, ← hw4] at p4
  have zj4 : j4.size = h4.size + 1 := by rw [hj4]; simp
  have sp4 := s4.trans0 p4
  have st4 := st3.trans0 sp4
  have zs4 := s4.ge.sz
  have r4 := Rep.mono p4.ge r4
  have rT4 : Rep.rep w4 j4 Z (ansE Z.2.1 Z.2.2.2.2.1 (.slice a41 g4.1.l.length c41) (.slice a42 g4.2.2.1.l.length c42) (.slice a43 g4.2.2.2.1.l.length c43) (.slice a44 g4.2.2.2.2.2.l.length c44)) := by rw [← f4, ← n4] at r4; have := rep_pAns r4; rw [e4, f4, n4] at this; exact this
  have B1 := B1.step0 sp4
  have r1 := Rep.mono sp4.ge r1
  have rT1 := Rep.mono sp4.ge rT1
  have B2 := B2.step0 sp4
  have r2 := Rep.mono sp4.ge r2
  have rT2 := Rep.mono sp4.ge rT2
  have B3 := B3.step0 sp4
  have r3 := Rep.mono sp4.ge r3
  have rT3 := Rep.mono sp4.ge rT3
  have B41 := B4.1
  simp (disch := first | omega | (simp only [e_ssz, e_psz, e_hszs, List.length_cons, List.length_nil]; try omega; done)) only [↓reduceIte, go_sem, ← hj4, B4.at, B4.2.1]
  clear hj4 hw4
  -- 5: deep
  refine effS_call (.inr (.inl ⟨rfl, w4, Z, _, _, _, _, rfl, rT4, smZ, fun u5 h5 g5 x1 x2 x3 x4 s5 r5 t5 e5 => ⟨by simp (disch := first | omega | (simp only [e_ssz, e_psz, e_hszs, List.length_cons, List.length_nil]; try omega; done)) only [go_sem], ?_⟩⟩))
  have f5 : g5.2.1 = Z.2.1 := by rw [← e5]; rfl
  have n5 : g5.2.2.2.2.1 = Z.2.2.2.2.1 := by rw [← e5]; rfl
  obtain ⟨q1, q2, q3, q4⟩ := rep_ansG_sl r5
  obtain ⟨a51, c51, rfl⟩ := slg_sl q1
  obtain ⟨a52, c52, rfl⟩ := slg_sl q2
  obtain ⟨a53, c53, rfl⟩ := slg_sl q3
  obtain ⟨a54, c54, rfl⟩ := slg_sl q4
  rw [f5, n5] at r5 ⊢
  clear q1 q2 q3 q4
  simp only [ansE]
  have p5 := Step.push0 S0 u5 h5 #[.slice a51 g5.1.l.length c51, .int .i64 Z.2.1.1, .int .i64 Z.2.1.2.1, .int .i64 Z.2.1.2.2, .slice a52 g5.2.2.1.l.length c52, .slice a53 g5.2.2.2.1.l.length c53, str Z.2.2.2.2.1, .slice a54 g5.2.2.2.2.2.l.length c54] 34
  have B5 := Blk.new (u := u5) (h := h5) [.slice a51 g5.1.l.length c51, .int .i64 Z.2.1.1, .int .i64 Z.2.1.2.1, .int .i64 Z.2.1.2.2, .slice a52 g5.2.2.1.l.length c52, .slice a53 g5.2.2.2.1.l.length c53, str Z.2.2.2.2.1, .slice a54 g5.2.2.2.2.2.l.length c54] 34
  obtain ⟨j5, hj5⟩ : ∃ x, x = h5.push (.cells #[.slice a51 g5.1.l.length c51, .int .i64 Z.2.1.1, .int .i64 Z.2.1.2.1, .int .i64 Z.2.1.2.2, .slice a52 g5.2.2.1.l.length c52, .slice a53 g5.2.2.2.1.l.length c53, str Z.2.2.2.2.1, .slice a54 g5.2.2.2.2.2.l.length c54] 34) := ⟨_, rfl⟩
  obtain ⟨w5, hw5⟩ : ∃ x, x = ub u5 h5.size 0 := ⟨_, rfl⟩
  have B5 : Blk w5 j5 h5.size [.slice a51 g5.1.l.length c51, .int .i64 Z.2.1.1, .int .i64 Z.2.1.2.1, .int .i64 Z.2.1.2.2, .slice a52 g5.2.2.1.l.length c52, .slice a53 g5.2.2.2.1.l.length c53, str Z.2.2.2.2.1, .slice a54 g5.2.2.2.2.2.l.length c54] := by rw [hw5, hj5]; exact B5
  rw [← hj5, ← hw5] at p5
  have zj5 : j5.size = h5.size + 1 := by rw [hj5]; simp
  have sp5 := s5.trans0 p5
  have st5 := st4.trans0 sp5
  have zs5 := s5.ge.sz
  have r5 := Rep.mono p5.ge r5
  have rT5 : Rep.rep w5 j5 Z (ansE Z.2.1 Z.2.2.2.2.1 (.slice a51 g5.1.l.length c51) (.slice a52 g5.2.2.1.l.length c52) (.slice a53 g5.2.2.2.1.l.length c53) (.slice a54 g5.2.2.2.2.2.l.length c54)) := by rw [← f5, ← n5] at r5; have := rep_pAns r5; rw [e5, f5, n5] at this; exact this
  have B1 := B1.step0 sp5
  have r1 := Rep.mono sp5.ge r1
  have rT1 := Rep.mono sp5.ge rT1
  have B2 := B2.step0 sp5
  have r2 := Rep.mono sp5.ge r2
  have rT2 := Rep.mono sp5.ge rT2
  have B3 := B3.step0 sp5
  have r3 := Rep.mono sp5.ge r3
  have rT3 := Rep.mono sp5.ge rT3
  have B4 := B4.step0 sp5
  have r4 := Rep.mono sp5.ge r4
  have rT4 := Rep.mono sp5.ge rT4
  have B51 := B5.1
  simp (disch := first | omega | (simp only [e_ssz, e_psz, e_hszs, List.length_cons, List.length_nil]; try omega; done)) only [↓reduceIte, go_sem, ← hj5]
  clear hj5 hw5
  -- 6: asked
  refine effS_call (.inl ⟨rfl, w5, s, t, rfl, hls, hlt, (hG.mono st5.ge), fun u6 h6 g6 x1 x2 x3 x4 s6 r6 t6 e6 => ⟨by simp (disch := first | omega | (simp only [e_ssz, e_psz, e_hszs, List.length_cons, List.length_nil]; try omega; done)) only [go_sem], ?_⟩⟩)
  rw [← hA] at e6
  have f6 : g6.2.1 = A.2.1 := by rw [← e6]; rfl
  have n6 : g6.2.2.2.2.1 = A.2.2.2.2.1 := by rw [← e6]; rfl
  obtain ⟨q1, q2, q3, q4⟩ := rep_ansG_sl r6
  obtain ⟨a61, c61, rfl⟩ := slg_sl q1
  obtain ⟨a62, c62, rfl⟩ := slg_sl q2
  obtain ⟨a63, c63, rfl⟩ := slg_sl q3
  obtain ⟨a64, c64, rfl⟩ := slg_sl q4
  rw [f6, n6] at r6 ⊢
  clear q1 q2 q3 q4
  simp only [ansE]
  have p6 := Step.push0 S0 u6 h6 #[.slice a61 g6.1.l.length c61, .int .i64 A.2.1.1, .int .i64 A.2.1.2.1, .int .i64 A.2.1.2.2, .slice a62 g6.2.2.1.l.length c62, .slice a63 g6.2.2.2.1.l.length c63, str A.2.2.2.2.1, .slice a64 g6.2.2.2.2.2.l.length c64] 34
  have B6 := Blk.new (u := u6) (h := h6) [.slice a61 g6.1.l.length c61, .int .i64 A.2.1.1, .int .i64 A.2.1.2.1, .int .i64 A.2.1.2.2, .slice a62 g6.2.2.1.l.length c62, .slice a63 g6.2.2.2.1.l.length c63, str A.2.2.2.2.1, .slice a64 g6.2.2.2.2.2.l.length c64] 34
  obtain ⟨j6, hj6⟩ : ∃ x, x = h6.push (.cells #[.slice a61 g6.1.l.length c61, .int .i64 A.2.1.1, .int .i64 A.2.1.2.1, .int .i64 A.2.1.2.2, .slice a62 g6.2.2.1.l.length c62, .slice a63 g6.2.2.2.1.l.length c63, str A.2.2.2.2.1, .slice a64 g6.2.2.2.2.2.l.length c64] 34) := ⟨_, rfl⟩
  obtain ⟨w6, hw6⟩ : ∃ x, x = ub u6 h6.size 0 := ⟨_, rfl⟩
  have B6 : Blk w6 j6 h6.size [.slice a61 g6.1.l.length c61, .int .i64 A.2.1.1, .int .i64 A.2.1.2.1, .int .i64 A.2.1.2.2, .slice a62 g6.2.2.1.l.length c62, .slice a63 g6.2.2.2.1.l.length c63, str A.2.2.2.2.1, .slice a64 g6.2.2.2.2.2.l.length c64] := by rw [hw6, hj6]; exact B6
  rw [← hj6, ← hw6] at p6
  have zj6 : j6.size = h6.size + 1 := by rw [hj6]; simp
  have sp6 := s6.trans0 p6
  have st6 := st5.trans0 sp6
  have zs6 := s6.ge.sz
  have r6 := Rep.mono p6.ge r6
  have rT6 : Rep.rep w6 j6 A (ansE A.2.1 A.2.2.2.2.1 (.slice a61 g6.1.l.length c61) (.slice a62 g6.2.2.1.l.length c62) (.slice a63 g6.2.2.2.1.l.length c63) (.slice a64 g6.2.2.2.2.2.l.length c64)) := by rw [← f6, ← n6] at r6; have := rep_pAns r6; rw [e6, f6, n6] at this; exact this
  have B1 := B1.step0 sp6
  have r1 := Rep.mono sp6.ge r1
  have rT1 := Rep.mono sp6.ge rT1
  have B2 := B2.step0 sp6
  have r2 := Rep.mono sp6.ge r2
  have rT2 := Rep.mono sp6.ge rT2
  have B3 := B3.step0 sp6
  have r3 := Rep.mono sp6.ge r3
  have rT3 := Rep.mono sp6.ge rT3
  have B4 := B4.step0 sp6
  have r4 := Rep.mono sp6.ge r4
  have rT4 := Rep.mono sp6.ge rT4
  have B5 := B5.step0 sp6
  have r5 := Rep.mono sp6.ge r5
  have rT5 := Rep.mono sp6.ge rT5
  have B61 := B6.1
  have D1 := B1.1
  have D2 := B2.1
  have D3 := B3.1
  have D4 := B4.1
  have D5 := B5.1
  have D6 := B6.1
  simp (disch := first | omega | (simp only [e_ssz, e_psz, e_hszs, List.length_cons, List.length_nil]; try omega; done)) only [↓reduceIte, go_sem, ← hj6, B1.at, B1.2.1, B2.at, B2.2.1]
  clear hj6 hw6
  -- same
  refine effS_call (.inr (.inr (.inl ⟨rfl, w6, A, _, _, _, _, _, _, _, _, rfl, rT1, rT2, fun y1 k1 m1 => ⟨by simp (disch := first | omega | (simp only [e_ssz, e_psz, e_hszs, List.length_cons, List.length_nil]; try omega; done)) only [go_sem], ?_⟩⟩)))
  have sq1 := m1
  have B1 := B1.step0 m1
  have D1 := B1.1
  have B2 := B2.step0 m1
  have D2 := B2.1
  have B3 := B3.step0 m1
  have D3 := B3.1
  have B4 := B4.step0 m1
  have D4 := B4.1
  have B5 := B5.step0 m1
  have D5 := B5.1
  have B6 := B6.step0 m1
  have D6 := B6.1
  simp (disch := first | omega | (simp only [e_ssz, e_psz, e_hszs, List.length_cons, List.length_nil]; try omega; done)) only [↓reduceIte, go_sem, B2.at, B2.2.1, B3.at, B3.2.1]
  refine effS_call (.inr (.inr (.inl ⟨rfl, y1, A, _, _, _, _, _, _, _, _, rfl, (Rep.mono sq1.ge rT3), (Rep.mono sq1.ge rT2), fun y2 k2 m2 => ⟨by simp (disch := first | omega | (simp only [e_ssz, e_psz, e_hszs, List.length_cons, List.length_nil]; try omega; done)) only [go_sem], ?_⟩⟩)))
  have sq2 := sq1.trans0 m2
  have B1 := B1.step0 m2
  have D1 := B1.1
  have B2 := B2.step0 m2
  have D2 := B2.1
  have B3 := B3.step0 m2
  have D3 := B3.1
  have B4 := B4.step0 m2
  have D4 := B4.1
  have B5 := B5.step0 m2
  have D5 := B5.1
  have B6 := B6.step0 m2
  have D6 := B6.1
  simp (disch := first | omega | (simp only [e_ssz, e_psz, e_hszs, List.length_cons, List.length_nil]; try omega; done)) only [↓reduceIte, go_sem, B4.at, B4.2.1, B5.at, B5.2.1]
  refine effS_call (.inr (.inr (.inl ⟨rfl, y2, Z, _, _, _, _, _, _, _, _, rfl, (Rep.mono sq2.ge rT4), (Rep.mono sq2.ge rT5), fun y3 k3 m3 => ⟨by simp (disch := first | omega | (simp only [e_ssz, e_psz, e_hszs, List.length_cons, List.length_nil]; try omega; done)) only [go_sem], ?_⟩⟩)))
  have sq3 := sq2.trans0 m3
  have B1 := B1.step0 m3
  have D1 := B1.1
  have B2 := B2.step0 m3
  have D2 := B2.1
  have B3 := B3.step0 m3
  have D3 := B3.1
  have B4 := B4.step0 m3
  have D4 := B4.1
  have B5 := B5.step0 m3
  have D5 := B5.1
  have B6 := B6.step0 m3
  have D6 := B6.1
  simp (disch := first | omega | (simp only [e_ssz, e_psz, e_hszs, List.length_cons, List.length_nil]; try omega; done)) only [↓reduceIte, go_sem, B2.at, B2.2.1, B6.at, B6.2.1]
  refine effS_call (.inr (.inr (.inl ⟨rfl, y3, A, _, _, _, _, _, _, _, _, rfl, (Rep.mono sq3.ge rT6), (Rep.mono sq3.ge rT2), fun y4 k4 m4 => ⟨by simp (disch := first | omega | (simp only [e_ssz, e_psz, e_hszs, List.length_cons, List.length_nil]; try omega; done)) only [go_sem], ?_⟩⟩)))
  have sq4 := sq3.trans0 m4
  have B1 := B1.step0 m4
  have D1 := B1.1
  have B2 := B2.step0 m4
  have D2 := B2.1
  have B3 := B3.step0 m4
  have D3 := B3.1
  have B4 := B4.step0 m4
  have D4 := B4.1
  have B5 := B5.step0 m4
  have D5 := B5.1
  have B6 := B6.step0 m4
  have D6 := B6.1
  have r1 := Rep.mono sq4.ge r1
  have rT1 := Rep.mono sq4.ge rT1
  have r2 := Rep.mono sq4.ge r2
  have rT2 := Rep.mono sq4.ge rT2
  have r3 := Rep.mono sq4.ge r3
  have rT3 := Rep.mono sq4.ge rT3
  have r4 := Rep.mono sq4.ge r4
  have rT4 := Rep.mono sq4.ge rT4
  have r5 := Rep.mono sq4.ge r5
  have rT5 := Rep.mono sq4.ge rT5
  have r6 := Rep.mono sq4.ge r6
  have rT6 := Rep.mono sq4.ge rT6
  have st7 := st6.trans0 sq4
  have zq := sq4.ge.sz
  -- the book
  have p7 := Step.push0 S0 y4 k4 (bkE (.slice none 0 0) (.slice none 0 0) (.slice none 0 0) (.slice none 0 0) (.slice none 0 0)).toArray 45
  have B7 := Blk.new (u := y4) (h := k4) (bkE (.slice none 0 0) (.slice none 0 0) (.slice none 0 0) (.slice none 0 0) (.slice none 0 0)) 45
  obtain ⟨j7, hj7⟩ : ∃ x, x = k4.push (.cells (bkE (.slice none 0 0) (.slice none 0 0) (.slice none 0 0) (.slice none 0 0) (.slice none 0 0)).toArray 45) := ⟨_, rfl⟩
  obtain ⟨w7, hw7⟩ : ∃ x, x = ub y4 k4.size 0 := ⟨_, rfl⟩
  have B7 : Blk w7 j7 k4.size (bkE (.slice none 0 0) (.slice none 0 0) (.slice none 0 0) (.slice none 0 0) (.slice none 0 0)) := by rw [hw7, hj7]; exact B7
  rw [← hj7, ← hw7] at p7
  have zj7 : j7.size = k4.size + 1 := by rw [hj7]; simp
  unfold bkE at hj7
  obtain ⟨bb, hbb⟩ : ∃ x, x = k4.size := ⟨_, rfl⟩
  rw [← hbb] at B7
  have bk : BkS bb w7 j7 ⟨[], [], [], [], []⟩ (.slice none 0 0) (.slice none 0 0) (.slice none 0 0) (.slice none 0 0) (.slice none 0 0) := ⟨B7, .nil _ _ _, .nil _ _ _, .nil _ _ _, .nil _ _ _, .nil _ _ _, fun n => by simp [vtag]⟩
  have st8 := st7.trans0 p7
  have B1 := B1.step0 p7
  have D1 := B1.1
  have r1 := Rep.mono p7.ge r1
  have rT1 := Rep.mono p7.ge rT1
  have B2 := B2.step0 p7
  have D2 := B2.1
  have r2 := Rep.mono p7.ge r2
  have rT2 := Rep.mono p7.ge rT2
  have B3 := B3.step0 p7
  have D3 := B3.1
  have r3 := Rep.mono p7.ge r3
  have rT3 := Rep.mono p7.ge rT3
  have B4 := B4.step0 p7
  have D4 := B4.1
  have r4 := Rep.mono p7.ge r4
  have rT4 := Rep.mono p7.ge rT4
  have B5 := B5.step0 p7
  have D5 := B5.1
  have r5 := Rep.mono p7.ge r5
  have rT5 := Rep.mono p7.ge rT5
  have B6 := B6.step0 p7
  have D6 := B6.1
  have r6 := Rep.mono p7.ge r6
  have rT6 := Rep.mono p7.ge rT6
  simp (disch := first | omega | (simp only [e_ssz, e_psz, e_hszs, List.length_cons, List.length_nil]; try omega; done)) only [↓reduceIte, go_sem, B1.at, B1.2.1, ← hj7, ← hbb]
  clear hj7 hw7
  have hn0 : ∀ k, k < bb → ¬ BkB bb (.slice none 0 0) (.slice none 0 0) (.slice none 0 0) (.slice none 0 0) (.slice none 0 0) k := fun k hk q => by have := (bk.own q).1; omega
  -- add 1
  refine effS_call (.inr (.inr (.inr (.inl ⟨rfl, w7, bb, _, _, _, _, _, _, g1, (.slice a11 g1.1.l.length c11), (.slice a12 g1.2.2.1.l.length c12), (.slice a13 g1.2.2.2.1.l.length c13), (.slice a14 g1.2.2.2.2.2.l.length c14), (by rw [f1, n1]; rfl), bk, (by rw [f1, n1]; exact r1), (by unfold BkM.len; simp), fun ub1 hb1 mb1 vb10 vb12 vb14 vb16 vb18 sb1 nb1 bk1 ad1 => ⟨by simp (disch := first | omega | (simp only [e_ssz, e_psz, e_hszs, List.length_cons, List.length_nil]; try omega; done)) only [go_sem], ?_⟩⟩))))
  have sa1 := sb1
  have na1 := nb1
  have at1 := ad1
  have B1 := B1.step sb1 (fun q => hn0 _ (by omega) q)
  have D1 := B1.1
  have r1 := Rep.mono sb1.ge r1
  have rT1 := Rep.mono sb1.ge rT1
  have B2 := B2.step sb1 (fun q => hn0 _ (by omega) q)
  have D2 := B2.1
  have r2 := Rep.mono sb1.ge r2
  have rT2 := Rep.mono sb1.ge rT2
  have B3 := B3.step sb1 (fun q => hn0 _ (by omega) q)
  have D3 := B3.1
  have r3 := Rep.mono sb1.ge r3
  have rT3 := Rep.mono sb1.ge rT3
  have B4 := B4.step sb1 (fun q => hn0 _ (by omega) q)
  have D4 := B4.1
  have r4 := Rep.mono sb1.ge r4
  have rT4 := Rep.mono sb1.ge rT4
  have B5 := B5.step sb1 (fun q => hn0 _ (by omega) q)
  have D5 := B5.1
  have r5 := Rep.mono sb1.ge r5
  have rT5 := Rep.mono sb1.ge rT5
  have B6 := B6.step sb1 (fun q => hn0 _ (by omega) q)
  have D6 := B6.1
  have r6 := Rep.mono sb1.ge r6
  have rT6 := Rep.mono sb1.ge rT6
  simp (disch := first | omega | (simp only [e_ssz, e_psz, e_hszs, List.length_cons, List.length_nil]; try omega; done)) only [↓reduceIte, go_sem, B3.at, B3.2.1]
  -- add 3
  refine effS_call (.inr (.inr (.inr (.inl ⟨rfl, ub1, bb, _, _, _, _, _, _, g3, (.slice a31 g3.1.l.length c31), (.slice a32 g3.2.2.1.l.length c32), (.slice a33 g3.2.2.2.1.l.length c33), (.slice a34 g3.2.2.2.2.2.l.length c34), (by rw [f3, n3]; rfl), bk1, (by rw [f3, n3]; exact r3), (by have := ad1.2; have e : BkM.len ⟨[], [], [], [], []⟩ = 0 := rfl; omega), fun ub2 hb2 mb2 vb20 vb22 vb24 vb26 vb28 sb2 nb2 bk2 ad2 => ⟨by simp (disch := first | omega | (simp only [e_ssz, e_psz, e_hszs, List.length_cons, List.length_nil]; try omega; done)) only [go_sem], ?_⟩⟩))))
  have sa2 := Nx.step sa1 na1 sb2
  have na2 := na1.trans nb2 sa1.ge.sz
  have ad2 := ad1.trans ad2
  have B1 := B1.step sb2 (fun q => by rcases na1 _ q with q | q; exact hn0 _ (by omega) q; omega)
  have D1 := B1.1
  have r1 := Rep.mono sb2.ge r1
  have rT1 := Rep.mono sb2.ge rT1
  have B2 := B2.step sb2 (fun q => by rcases na1 _ q with q | q; exact hn0 _ (by omega) q; omega)
  have D2 := B2.1
  have r2 := Rep.mono sb2.ge r2
  have rT2 := Rep.mono sb2.ge rT2
  have B3 := B3.step sb2 (fun q => by rcases na1 _ q with q | q; exact hn0 _ (by omega) q; omega)
  have D3 := B3.1
  have r3 := Rep.mono sb2.ge r3
  have rT3 := Rep.mono sb2.ge rT3
  have B4 := B4.step sb2 (fun q => by rcases na1 _ q with q | q; exact hn0 _ (by omega) q; omega)
  have D4 := B4.1
  have r4 := Rep.mono sb2.ge r4
  have rT4 := Rep.mono sb2.ge rT4
  have B5 := B5.step sb2 (fun q => by rcases na1 _ q with q | q; exact hn0 _ (by omega) q; omega)
  have D5 := B5.1
  have r5 := Rep.mono sb2.ge r5
  have rT5 := Rep.mono sb2.ge rT5
  have B6 := B6.step sb2 (fun q => by rcases na1 _ q with q | q; exact hn0 _ (by omega) q; omega)
  have D6 := B6.1
  have r6 := Rep.mono sb2.ge r6
  have rT6 := Rep.mono sb2.ge rT6
  simp (disch := first | omega | (simp only [e_ssz, e_psz, e_hszs, List.length_cons, List.length_nil]; try omega; done)) only [↓reduceIte, go_sem, B4.at, B4.2.1]
  -- add 4
  refine effS_call (.inr (.inr (.inr (.inl ⟨rfl, ub2, bb, _, _, _, _, _, _, g4, (.slice a41 g4.1.l.length c41), (.slice a42 g4.2.2.1.l.length c42), (.slice a43 g4.2.2.2.1.l.length c43), (.slice a44 g4.2.2.2.2.2.l.length c44), (by rw [f4, n4]; rfl), bk2, (by rw [f4, n4]; exact r4), (by have := ad2.2; have e : BkM.len ⟨[], [], [], [], []⟩ = 0 := rfl; omega), fun ub3 hb3 mb3 vb30 vb32 vb34 vb36 vb38 sb3 nb3 bk3 ad3 => ⟨by simp (disch := first | omega | (simp only [e_ssz, e_psz, e_hszs, List.length_cons, List.length_nil]; try omega; done)) only [go_sem], ?_⟩⟩))))
  have sa3 := Nx.step sa2 na2 sb3
  have na3 := na2.trans nb3 sa2.ge.sz
  have ad3 := ad2.trans ad3
  have B1 := B1.step sb3 (fun q => by rcases na2 _ q with q | q; exact hn0 _ (by omega) q; omega)
  have D1 := B1.1
  have r1 := Rep.mono sb3.ge r1
  have rT1 := Rep.mono sb3.ge rT1
  have B2 := B2.step sb3 (fun q => by rcases na2 _ q with q | q; exact hn0 _ (by omega) q; omega)
  have D2 := B2.1
  have r2 := Rep.mono sb3.ge r2
  have rT2 := Rep.mono sb3.ge rT2
  have B3 := B3.step sb3 (fun q => by rcases na2 _ q with q | q; exact hn0 _ (by omega) q; omega)
  have D3 := B3.1
  have r3 := Rep.mono sb3.ge r3
  have rT3 := Rep.mono sb3.ge rT3
  have B4 := B4.step sb3 (fun q => by rcases na2 _ q with q | q; exact hn0 _ (by omega) q; omega)
  have D4 := B4.1
  have r4 := Rep.mono sb3.ge r4
  have rT4 := Rep.mono sb3.ge rT4
  have B5 := B5.step sb3 (fun q => by rcases na2 _ q with q | q; exact hn0 _ (by omega) q; omega)
  have D5 := B5.1
  have r5 := Rep.mono sb3.ge r5
  have rT5 := Rep.mono sb3.ge rT5
  have B6 := B6.step sb3 (fun q => by rcases na2 _ q with q | q; exact hn0 _ (by omega) q; omega)
  have D6 := B6.1
  have r6 := Rep.mono sb3.ge r6
  have rT6 := Rep.mono sb3.ge rT6
  simp (disch := first | omega | (simp only [e_ssz, e_psz, e_hszs, List.length_cons, List.length_nil]; try omega; done)) only [↓reduceIte, go_sem, B6.at, B6.2.1]
  -- add 6
  refine effS_call (.inr (.inr (.inr (.inl ⟨rfl, ub3, bb, _, _, _, _, _, _, g6, (.slice a61 g6.1.l.length c61), (.slice a62 g6.2.2.1.l.length c62), (.slice a63 g6.2.2.2.1.l.length c63), (.slice a64 g6.2.2.2.2.2.l.length c64), (by rw [f6, n6]; rfl), bk3, (by rw [f6, n6]; exact r6), (by have := ad3.2; have e : BkM.len ⟨[], [], [], [], []⟩ = 0 := rfl; omega), fun ub4 hb4 mb4 vb40 vb42 vb44 vb46 vb48 sb4 nb4 bk4 ad4 => ⟨by simp (disch := first | omega | (simp only [e_ssz, e_psz, e_hszs, List.length_cons, List.length_nil]; try omega; done)) only [go_sem], ?_⟩⟩))))
  have sa4 := Nx.step sa3 na3 sb4
  have na4 := na3.trans nb4 sa3.ge.sz
  have ad4 := ad3.trans ad4
  have B1 := B1.step sb4 (fun q => by rcases na3 _ q with q | q; exact hn0 _ (by omega) q; omega)
  have D1 := B1.1
  have r1 := Rep.mono sb4.ge r1
  have rT1 := Rep.mono sb4.ge rT1
  have B2 := B2.step sb4 (fun q => by rcases na3 _ q with q | q; exact hn0 _ (by omega) q; omega)
  have D2 := B2.1
  have r2 := Rep.mono sb4.ge r2
  have rT2 := Rep.mono sb4.ge rT2
  have B3 := B3.step sb4 (fun q => by rcases na3 _ q with q | q; exact hn0 _ (by omega) q; omega)
  have D3 := B3.1
  have r3 := Rep.mono sb4.ge r3
  have rT3 := Rep.mono sb4.ge rT3
  have B4 := B4.step sb4 (fun q => by rcases na3 _ q with q | q; exact hn0 _ (by omega) q; omega)
  have D4 := B4.1
  have r4 := Rep.mono sb4.ge r4
  have rT4 := Rep.mono sb4.ge rT4
  have B5 := B5.step sb4 (fun q => by rcases na3 _ q with q | q; exact hn0 _ (by omega) q; omega)
  have D5 := B5.1
  have r5 := Rep.mono sb4.ge r5
  have rT5 := Rep.mono sb4.ge rT5
  have B6 := B6.step sb4 (fun q => by rcases na3 _ q with q | q; exact hn0 _ (by omega) q; omega)
  have D6 := B6.1
  have r6 := Rep.mono sb4.ge r6
  have rT6 := Rep.mono sb4.ge rT6
  simp (disch := first | omega | (simp only [e_ssz, e_psz, e_hszs, List.length_cons, List.length_nil]; try omega; done)) only [↓reduceIte, go_sem]
  -- the marks
  have bbh : h6.size < bb := by omega
  have stA : Step S0 u h ub4 hb4 := st8.own sa4 (fun k q => by
    have := st8.ge.sz
    have := (bk.own q).1
    have := st7.ge.sz
    omega)
  obtain ⟨L0, hL0⟩ : ∃ L, L = mb4.a.map (toRm 3) := ⟨_, rfl⟩
  obtain ⟨L2, hL2⟩ : ∃ L, L = mb4.l.map (toRm 13) := ⟨_, rfl⟩
  obtain ⟨L4, hL4⟩ : ∃ L, L = mb4.c.map (toRm 3) := ⟨_, rfl⟩
  obtain ⟨L6, hL6⟩ : ∃ L, L = mb4.t.map (toRm 2) := ⟨_, rfl⟩
  obtain ⟨L8, hL8⟩ : ∃ L, L = mb4.k.map (toRm 2) := ⟨_, rfl⟩
  have htot : ∀ n, tot L0 L2 L4 L6 L8 n = mb4.cnt n := fun n => by
    unfold tot BkM.cnt
    rw [hL0, hL2, hL4, hL6, hL8, rtags_rm, rtags_rm, rtags_rm, rtags_rm, rtags_rm]
  have hcnt : ∀ n, tot L0 L2 L4 L6 L8 n ≤ (tags g1).count n + (tags g3).count n + (tags g4).count n + (tags g6).count n := fun n => by
    have q := ad4.1 n
    have e : BkM.cnt n ⟨[], [], [], [], []⟩ = 0 := rfl
    rw [e] at q
    simp only [List.count_append] at q
    rw [htot]; omega
  have hr : ∀ n, 0 < tot L0 L2 L4 L6 L8 n → (h.size ≤ n ∧ n < h1.size) ∨ (j2.size ≤ n ∧ n < h3.size) ∨ (j3.size ≤ n ∧ n < h4.size) ∨ (j5.size ≤ n ∧ n < h6.size) := fun n q => by
    have := hcnt n
    have q1 := t1.2 n; have q3 := t3.2 n; have q4 := t4.2 n; have q6 := t6.2 n
    omega
  have hc1 : ∀ n, tot L0 L2 L4 L6 L8 n ≤ 1 := fun n => by
    have := hcnt n
    have q1 := t1.2 n; have q3 := t3.2 n; have q4 := t4.2 n; have q6 := t6.2 n
    have o1 := t1.1 n; have o3 := t3.1 n; have o4 := t4.1 n; have o6 := t6.1 n
    omega
  have hhi : ∀ n, h6.size ≤ n → tot L0 L2 L4 L6 L8 n = 0 := fun n q => by
    apply Decidable.byContradiction; intro hne
    have := hr n (by omega)
    omega
  obtain ⟨uw, huw⟩ : ∃ uw : U, uw = fun j => if 0 < tot L0 L2 L4 L6 L8 j then 0 else ub4 j := ⟨_, rfl⟩
  have uw0 : ∀ j, tot L0 L2 L4 L6 L8 j = 0 → uw j = ub4 j := fun j q => by rw [huw]; simp only; rw [if_neg (by omega)]
  have uw1 : ∀ j, 0 < tot L0 L2 L4 L6 L8 j → uw j = 0 := fun j q => by rw [huw]; simp only; rw [if_pos q]
  have hlen := ad4.2
  have e0len : BkM.len ⟨[], [], [], [], []⟩ = 0 := rfl
  rw [e0len] at hlen
  unfold BkM.len at hlen
  have Bw : Blk uw hb4 bb (bkE vb40 vb42 vb44 vb46 vb48) := by
    obtain ⟨k1, k2, k3, k4', k5⟩ := bk4.B
    exact ⟨k1, k2, k3, by rw [uw0 bb (hhi bb (by omega))]; exact k4', k5⟩
  have ho : ∀ {b : Nat}, bb + 1 ≤ b → uw b = ub4 b := fun q => uw0 _ (hhi _ (by omega))
  have R0 := rm_all (s := 3) (p := 3) (k9 := true) (u' := uw) rfl bk4.o0.isSl (fun b q => ho (bk4.o0.ge q))
  have R2 := rm_all (s := 13) (p := 13) (k9 := false) (u' := uw) rfl bk4.o2.isSl (fun b q => ho (bk4.o2.ge q))
  have R4 := rm_all (s := 3) (p := 2) (k9 := false) (u' := uw) rfl bk4.o4.isSl (fun b q => ho (bk4.o4.ge q))
  have R6 := rm_all (s := 2) (p := 2) (k9 := false) (u' := uw) rfl bk4.o6.isSl (fun b q => ho (bk4.o6.ge q))
  have R8 := rm_all (s := 2) (p := 1) (k9 := false) (u' := uw) rfl bk4.o8.isSl (fun b q => ho (bk4.o8.ge q))
  rw [← hL0] at R0
  rw [← hL2] at R2
  rw [← hL4] at R4
  rw [← hL6] at R6
  rw [← hL8] at R8
  refine effS_call (.inr (.inr (.inr (.inr (.inl ⟨rfl, uw, bb, vb40, vb42, vb44, vb46, vb48, L0, L2, L4, L6, L8, rfl, Bw, ⟨R0.1, R0.2.1, R0.2.2.1, R0.2.2.2, by rw [hL0, List.length_map]; omega⟩, ⟨R2.1, R2.2.1, R2.2.2.1, R2.2.2.2, by rw [hL2, List.length_map]; omega⟩, ⟨R4.1, R4.2.1, R4.2.2.1, R4.2.2.2, by rw [hL4, List.length_map]; omega⟩, ⟨R6.1, R6.2.1, R6.2.2.1, R6.2.2.2, by rw [hL6, List.length_map]; omega⟩, ⟨R8.1, R8.2.1, R8.2.2.1, R8.2.2.2, by rw [hL8, List.length_map]; omega⟩, hc1, hhi bb (by omega), uw1, fun uf hw x1 x3 x5 x7 x9 z1 z2 z3 fin => ⟨by simp (disch := first | omega | (simp only [e_ssz, e_psz, e_hszs, List.length_cons, List.length_nil]; try omega; done)) only [go_sem], ?_⟩⟩)))))
  have hz4 := stA.ge.sz
  have hzA : h6.size < hb4.size := by have := bk4.B.1; omega
  have nt : ∀ n, (j1.size ≤ n ∧ n ≤ h2.size) ∨ (j4.size ≤ n ∧ n ≤ h5.size) → tot L0 L2 L4 L6 L8 n = 0 := fun n q => by
    apply Decidable.byContradiction; intro hne
    have := hr n (by omega)
    omega
  have C2 : Blk z0 hw h2.size [.slice a21 g2.1.l.length c21, .int .i64 A.2.1.1, .int .i64 A.2.1.2.1, .int .i64 A.2.1.2.2, .slice a22 g2.2.2.1.l.length c22, .slice a23 g2.2.2.2.1.l.length c23, str A.2.2.2.2.1, .slice a24 g2.2.2.2.2.2.l.length c24] := B2.zero.same z1 (z3 _ (by omega) (by omega) (nt _ (by omega)))
  have C5 : Blk z0 hw h5.size [.slice a51 g5.1.l.length c51, .int .i64 Z.2.1.1, .int .i64 Z.2.1.2.1, .int .i64 Z.2.1.2.2, .slice a52 g5.2.2.1.l.length c52, .slice a53 g5.2.2.2.1.l.length c53, str Z.2.2.2.2.1, .slice a54 g5.2.2.2.2.2.l.length c54] := B5.zero.same z1 (z3 _ (by omega) (by omega) (nt _ (by omega)))
  obtain ⟨v2, W2⟩ := rst_keep r2 z1 z2 (fun n hn q => by have := t2.2 n q; exact z3 n hn (by omega) (nt n (by omega)))
  obtain ⟨v5, W5⟩ := rst_keep r5 z1 z2 (fun n hn q => by have := t5.2 n q; exact z3 n hn (by omega) (nt n (by omega)))
  have W2 : Rep.rep v2 hw A (ansE A.2.1 A.2.2.2.2.1 (.slice a21 g2.1.l.length c21) (.slice a22 g2.2.2.1.l.length c22) (.slice a23 g2.2.2.2.1.l.length c23) (.slice a24 g2.2.2.2.2.2.l.length c24)) := by have := rep_pAns W2; rw [e2] at this; exact this
  have W5 : Rep.rep v5 hw Z (ansE Z.2.1 Z.2.2.2.2.1 (.slice a51 g5.1.l.length c51) (.slice a52 g5.2.2.1.l.length c52) (.slice a53 g5.2.2.2.1.l.length c53) (.slice a54 g5.2.2.2.2.2.l.length c54)) := by have := rep_pAns W5; rw [e5] at this; exact this
  have xw : Ext0 h hw := ⟨by omega, fun b hb => (z3 b (by omega) (by omega) (by apply Decidable.byContradiction; intro hne; have := hr b (by omega); omega)).trans (stA.same b hb (fun q => q)).1⟩
  have hGw := hG.mono (ge_ext (u := u) xw)
  have d2 := C2.1
  have d5 := C5.1
  clear B1 B2 B3 B4 B5 B6 D1 D2 D3 D4 D5 D6 r1 r2 r3 r4 r5 r6 rT1 rT2 rT3 rT4 rT5 rT6 R0 R2 R4 R6 R8 Bw bk4 ad4
  simp (disch := first | omega | (simp only [e_ssz, e_psz, e_hszs, List.length_cons, List.length_nil]; try omega; done)) only [↓reduceIte, go_sem]
  -- stands, and asked again
  refine effS_call (.inr (.inr (.inr (.inr (.inr (.inl ⟨rfl, uf, bb, L0, L2, L4, L6, L8, _, _, _, _, _, _, _, _, _, _, rfl, fin, ⟨by simp (disch := first | omega | (simp only [e_ssz, e_psz, e_hszs, List.length_cons, List.length_nil]; try omega; done)) only [go_sem], ?_⟩⟩))))))
  simp (disch := first | omega | (simp only [e_ssz, e_psz, e_hszs, List.length_cons, List.length_nil]; try omega; done)) only [↓reduceIte, go_sem, C2.at, C2.2.1]
  refine effS_call (.inl ⟨rfl, u, s, t, rfl, hls, hlt, hGw, fun u7 h7 g7 x1 x2 x3 x4 s7 r7 t7 e7 => ?_⟩)
  rw [← hA] at e7
  have f7 : g7.2.1 = A.2.1 := by rw [← e7]; rfl
  have n7 : g7.2.2.2.2.1 = A.2.2.2.2.1 := by rw [← e7]; rfl
  obtain ⟨q1, q2, q3, q4⟩ := rep_ansG_sl r7
  obtain ⟨a71, c71, rfl⟩ := slg_sl q1
  obtain ⟨a72, c72, rfl⟩ := slg_sl q2
  obtain ⟨a73, c73, rfl⟩ := slg_sl q3
  obtain ⟨a74, c74, rfl⟩ := slg_sl q4
  have r7 := rep_pAns r7
  rw [e7, f7, n7] at r7
  rw [f7, n7]
  have x7e := s7.ext
  have C27 := C2.same x7e.1 (x7e.2 _ d2)
  have C57 := C5.same x7e.1 (x7e.2 _ d5)
  have d27 := C27.1
  have d57 := C57.1
  refine ⟨by simp (disch := first | omega | (simp only [e_ssz, e_psz, e_hszs, List.length_cons, List.length_nil]; try omega; done)) only [↓reduceIte, go_sem, C2.at, C27.at, C27.2.1], ?_⟩
  simp only [ansE]
  simp (disch := first | omega | (simp only [e_ssz, e_psz, e_hszs, List.length_cons, List.length_nil]; try omega; done)) only [↓reduceIte, go_sem]
  obtain ⟨um, hum⟩ : ∃ um : U, um = fun b => max (u7 b) (v2 b) := ⟨_, rfl⟩
  refine effS_call (.inr (.inr (.inl ⟨rfl, um, A, _, _, _, _, _, _, _, _, rfl, Rep.mono (ge_up (fun b => by rw [hum]; exact Nat.le_max_left _ _)) r7, Rep.mono (ge_up (fun b => by rw [hum]; exact Nat.le_max_right _ _)) (Rep.mono (ge_ext x7e) W2), fun u8 h8 s8 => ⟨by simp (disch := first | omega | (simp only [e_ssz, e_psz, e_hszs, List.length_cons, List.length_nil]; try omega; done)) only [go_sem], ?_⟩⟩)))
  have x8e := ext_trans x7e s8.ext
  have C58 := C5.same x8e.1 (x8e.2 _ d5)
  have d58 := C58.1
  have hG8 := hGw.mono (ge_ext (u := u) x8e)
  simp (disch := first | omega | (simp only [e_ssz, e_psz, e_hszs, List.length_cons, List.length_nil]; try omega; done)) only [↓reduceIte, go_sem, C58.at, C58.2.1]
  refine effS_call (.inl ⟨rfl, u, t, s, rfl, hlt, hls, hG8, fun u9 h9 g9 x1 x2 x3 x4 s9 r9 t9 e9 => ?_⟩)
  rw [← hZ] at e9
  have f9 : g9.2.1 = Z.2.1 := by rw [← e9]; rfl
  have n9 : g9.2.2.2.2.1 = Z.2.2.2.2.1 := by rw [← e9]; rfl
  obtain ⟨q1, q2, q3, q4⟩ := rep_ansG_sl r9
  obtain ⟨a91, c91, rfl⟩ := slg_sl q1
  obtain ⟨a92, c92, rfl⟩ := slg_sl q2
  obtain ⟨a93, c93, rfl⟩ := slg_sl q3
  obtain ⟨a94, c94, rfl⟩ := slg_sl q4
  have r9 := rep_pAns r9
  rw [e9, f9, n9] at r9
  rw [f9, n9]
  have x9e := ext_trans x8e s9.ext
  have C59 := C5.same x9e.1 (x9e.2 _ d5)
  have d59 := C59.1
  refine ⟨by simp (disch := first | omega | (simp only [e_ssz, e_psz, e_hszs, List.length_cons, List.length_nil]; try omega; done)) only [↓reduceIte, go_sem, C58.at, C59.at, C59.2.1], ?_⟩
  simp only [ansE]
  simp (disch := first | omega | (simp only [e_ssz, e_psz, e_hszs, List.length_cons, List.length_nil]; try omega; done)) only [↓reduceIte, go_sem]
  obtain ⟨un, hun⟩ : ∃ um : U, um = fun b => max (u9 b) (v5 b) := ⟨_, rfl⟩
  refine effS_call (.inr (.inr (.inl ⟨rfl, un, Z, _, _, _, _, _, _, _, _, rfl, Rep.mono (ge_up (fun b => by rw [hun]; exact Nat.le_max_left _ _)) r9, Rep.mono (ge_up (fun b => by rw [hun]; exact Nat.le_max_right _ _)) (Rep.mono (ge_ext x9e) W5), fun u10 h10 s10 => ⟨by simp (disch := first | omega | (simp only [e_ssz, e_psz, e_hszs, List.length_cons, List.length_nil]; try omega; done)) only [go_sem], ?_⟩⟩)))
  have x10e := ext_trans x9e s10.ext
  simp (disch := first | omega | (simp only [e_ssz, e_psz, e_hszs, List.length_cons, List.length_nil]; try omega; done)) only [↓reduceIte, go_sem]
  refine effS_call (.inr (.inr (.inr (.inr (.inr (.inl ⟨rfl, uf, bb, L0, L2, L4, L6, L8, _, _, _, _, _, _, _, _, _, _, rfl, fin.keep x10e, ⟨by simp (disch := first | omega | (simp only [e_ssz, e_psz, e_hszs, List.length_cons, List.length_nil]; try omega; done)) only [go_sem], ?_⟩⟩))))))
  simp (disch := first | omega | (simp only [e_ssz, e_psz, e_hszs, List.length_cons, List.length_nil]; try omega; done)) only [↓reduceIte, go_sem]
  refine effS_call (.inr (.inr (.inr (.inr (.inr (.inr ⟨rfl, u, rfl, hGw.mono (ge_ext (u := u) x10e), fun u11 h11 s11 => ⟨by simp (disch := first | omega | (simp only [e_ssz, e_psz, e_hszs, List.length_cons, List.length_nil]; try omega; done)) only [go_sem], ?_⟩⟩))))))
  simp (disch := first | omega | (simp only [e_ssz, e_psz, e_hszs, List.length_cons, List.length_nil]; try omega; done)) only [↓reduceIte, go_sem]
  exact hK _ (ext_trans xw (ext_trans x10e s11.ext))
theorem ParseOwn_hc {s t : List UInt8} {h : H} (hs : s.length ≤ 9223372036854775807) (ht : t.length ≤ 9223372036854775807) (hG : LxG (hsz h) h) : HCX Tryd.prog 3 [str s, str t] h (fun v h' => v = .bool true ∧ Ext0 h h') fun _ _ => False := owLaw_ok ⟨hsz h, s, t, rfl, hs, ht, hG, fun h' e => ⟨rfl, e⟩⟩
end Go.Proofs.YtlenjlidahnklaaDoor
