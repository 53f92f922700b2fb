/- ParseOwn: grow. -/
import Derived.Test.YtlenjlidahnklaaDoorPwI
namespace Go.Ev
open Go Rep Edict
theorem InH.mono {s : Nat} {h h' : H} {L : List (RmE s)} (i : InH h L) (hs : h.size ≤ h'.size) : InH h' L := fun g hg b hb => Nat.lt_of_lt_of_le (i g hg b hb) hs
theorem room_own {s n : Nat} {h : H} {v : Value} {t : Option Nat} {b : Nat} (r : Room s h v n t) (q : OwnB v b) : t = some b := by
  obtain ⟨o, n', c, rfl⟩ := q
  unfold Room at r
  split at r
  · cases r.1
  · obtain ⟨c', e, -⟩ := r; cases e; rfl
theorem own_of {s p : Nat} {k9 : Bool} {u : U} {h : H} {v : Value} {l : List (MkE s p k9)} {t : Option Nat} {n : Nat} (i : IsSl u h v l) (r : Room (s + 1) h v n t) (hn : n = l.length) (hu : ∀ b, t = some b → u b = n * (s + 1)) : Own 0 u h v l := by
  subst hn
  unfold Room at r
  split at r
  · obtain ⟨rfl, r2⟩ := r
    exact .inl ⟨rfl, List.length_eq_zero_iff.1 r2⟩
  · obtain ⟨c, rfl, r2, r3, r4, r5, r6⟩ := r
    refine .inr ⟨_, c, rfl, r2, r3, Nat.zero_le _, r4, r5, r6, hu _ rfl, fun j x hx => ?_⟩
    obtain ⟨b, o, e, -, -, -, rr⟩ := i.row j x hx
    cases e
    rw [Nat.zero_add] at rr
    exact rr
/-- What is settled of the lists that come yet. -/
def Pnd {s : Nat} (u : U) (L : List (RmE s)) (m : Nat) : Prop := ∀ q g, L[q]? = some g → m ≤ q → ∀ b, g.t = some b → u b = g.n * (s + 1)
theorem Pnd.step {s m : Nat} {S : Nat → Prop} {u u' : U} {h h' : H} {L : List (RmE s)} (P : Pnd u L m) (st : Step S u h u' h') (hin : InH h L) (hn : ∀ b, 0 < (rtags L).count b → ¬ S b) : Pnd u' L m := fun q g hg hq b hb => by
  rw [(st.same b (hin g (List.mem_of_getElem? hg) b hb) (hn b (tag_mem hg hb))).2]; exact P q g hg hq b hb
theorem Pnd.next {s m : Nat} {S : Nat → Prop} {u u' : U} {h h' : H} {L : List (RmE s)} {g : RmE s} (P : Pnd u L m) (st : Step S u h u' h') (hin : InH h L) (hg : L[m]? = some g) (h1 : ∀ b, (rtags L).count b ≤ 1) (hS : ∀ b, S b → g.t = some b) : Pnd u' L (m + 1) := fun q x hx hq b hb => by
  rw [(st.same b (hin x (List.mem_of_getElem? hx) b hb) (fun hs => by have := tag_one (h1 b) hx hg hb (hS b hs); omega)).2]; exact P q x hx (by omega) b hb
theorem mks_take {s p : Nat} {k9 : Bool} {L : List (RmE s)} {i : Nat} {g : RmE s} (h : L[i]? = some g) : (mks p k9 1 L).take (i + 1) = (mks p k9 1 L).take i ++ [marks i (g.n + 1)] := by
  rw [List.take_add_one, mks_at h]; rfl
theorem tag_in {s : Nat} {h : H} {L : List (RmE s)} (hin : InH h L) {b : Nat} (hb : 0 < (rtags L).count b) : b < h.size := by
  rw [List.count_pos_iff] at hb
  unfold rtags at hb
  rw [List.mem_flatMap] at hb
  obtain ⟨g, hg, hb⟩ := hb
  cases ht : g.t with
  | none => rw [ht] at hb; cases hb
  | some c =>
    rw [ht] at hb
    simp only [Option.toList_some, List.mem_singleton] at hb
    subst hb
    exact hin g hg _ ht
theorem sz_lst {α : Type} [Rep α] : sz (List α) = 1 := rfl
theorem sz_rme {s : Nat} : sz (RmE s) = 1 := rfl
theorem rep_rme {s : Nat} {u : U} {h : H} {g : RmE s} {cs : List Value} : rep u h g cs = (∃ v, cs = [v] ∧ Room (s + 1) h v g.n g.t) := rfl
end Go.Ev
namespace Go.Proofs.YtlenjlidahnklaaDoor
open Go Go.Ev Edict HasTags
def tot (L0 : List (RmE 3)) (L2 : List (RmE 13)) (L4 : List (RmE 3)) (L6 : List (RmE 2)) (L8 : List (RmE 2)) (n : Nat) : Nat := (rtags L0).count n + (rtags L2).count n + (rtags L4).count n + (rtags L6).count n + (rtags L8).count n
def bkF (v0 w1 v2 w3 v4 w5 v6 w7 v8 w9 : Value) : List Value := [v0, w1, v2, w3, v4, w5, v6, w7, v8, w9]
/-- The book in the end. -/
structure BkFin (u : U) (h : H) (bb : Nat) (L0 : List (RmE 3)) (L2 : List (RmE 13)) (L4 : List (RmE 3)) (L6 : List (RmE 2)) (L8 : List (RmE 2)) (v0 w1 v2 w3 v4 w5 v6 w7 v8 w9 : Value) : Prop where
  B : Blk u h bb (bkF v0 w1 v2 w3 v4 w5 v6 w7 v8 w9)
  aL0 : IsSl u h v0 (mks 3 true 0 L0)
  bL0 : IsSl u h w1 (mks 3 true 1 L0)
  aL2 : IsSl u h v2 (mks 13 false 0 L2)
  bL2 : IsSl u h w3 (mks 13 false 1 L2)
  aL4 : IsSl u h v4 (mks 2 false 0 L4)
  bL4 : IsSl u h w5 (mks 2 false 1 L4)
  aL6 : IsSl u h v6 (mks 2 false 0 L6)
  bL6 : IsSl u h w7 (mks 2 false 1 L6)
  aL8 : IsSl u h v8 (mks 1 false 0 L8)
  bL8 : IsSl u h w9 (mks 1 false 1 L8)
def C_grow (vs : List Value) (h : H) (K : Value → H → Prop) : Prop := ∃ (u : U) (bb : Nat) (v0 v2 v4 v6 v8 : Value) (L0 : List (RmE 3)) (L2 : List (RmE 13)) (L4 : List (RmE 3)) (L6 : List (RmE 2)) (L8 : List (RmE 2)), vs = [.pointer (some ⟨bb, 0, none⟩)] ∧ Blk u h bb (bkE v0 v2 v4 v6 v8) ∧
  (IsSl u h v0 L0 ∧ IsSl u h v0 (mks 3 true 0 L0) ∧ InH h L0 ∧ Pnd u L0 0 ∧ (∀ g ∈ L0, g.n ≤ 5000) ∧ L0.length ≤ 1000000000) ∧
  (IsSl u h v2 L2 ∧ IsSl u h v2 (mks 13 false 0 L2) ∧ InH h L2 ∧ Pnd u L2 0 ∧ (∀ g ∈ L2, g.n ≤ 5000) ∧ L2.length ≤ 1000000000) ∧
  (IsSl u h v4 L4 ∧ IsSl u h v4 (mks 2 false 0 L4) ∧ InH h L4 ∧ Pnd u L4 0 ∧ (∀ g ∈ L4, g.n ≤ 5000) ∧ L4.length ≤ 1000000000) ∧
  (IsSl u h v6 L6 ∧ IsSl u h v6 (mks 2 false 0 L6) ∧ InH h L6 ∧ Pnd u L6 0 ∧ (∀ g ∈ L6, g.n ≤ 5000) ∧ L6.length ≤ 1000000000) ∧
  (IsSl u h v8 L8 ∧ IsSl u h v8 (mks 1 false 0 L8) ∧ InH h L8 ∧ Pnd u L8 0 ∧ (∀ g ∈ L8, g.n ≤ 5000) ∧ L8.length ≤ 1000000000) ∧
  (∀ n, tot L0 L2 L4 L6 L8 n ≤ 1) ∧ tot L0 L2 L4 L6 L8 bb = 0 ∧
  ∀ u' h' w1 w3 w5 w7 w9, Step (fun j => j = bb ∨ 0 < tot L0 L2 L4 L6 L8 j) u h u' h' → BkFin u' h' bb L0 L2 L4 L6 L8 v0 w1 v2 w3 v4 w5 v6 w7 v8 w9 → K (.tuple #[]) h'
def G_grow : Ctr := fun f vs h K _ => f = 23 ∧ C_mark vs h K
theorem G_grow_ok : GOk Tryd.prog G_grow := by
  rintro f vs h K KP ⟨rfl, hC⟩; exact owMark_ok hC
theorem owGrow_ok {vs : List Value} {h : H} {K : Value → H → Prop} {KP : List PanicEntry → H → Prop} (hC : C_grow vs h K) : HCX Tryd.prog 24 vs h K KP := by
  obtain ⟨u, bb, v0, v2, v4, v6, v8, L0, L2, L4, L6, L8, rfl, B, ⟨RL0, ML0, NL0, PL0, leL0, lenL0⟩, ⟨RL2, ML2, NL2, PL2, leL2, lenL2⟩, ⟨RL4, ML4, NL4, PL4, leL4, lenL4⟩, ⟨RL6, ML6, NL6, PL6, leL6, lenL6⟩, ⟨RL8, ML8, NL8, PL8, leL8, lenL8⟩, hc1, hbb0, hK⟩ := hC
  have hm := mlenW
  unfold tot at hc1 hbb0
  obtain ⟨av0, cv0, rfl, -, -⟩ := RL0.sl
  obtain ⟨av2, cv2, rfl, -, -⟩ := RL2.sl
  obtain ⟨av4, cv4, rfl, -, -⟩ := RL4.sl
  obtain ⟨av6, cv6, rfl, -, -⟩ := RL6.sl
  obtain ⟨av8, cv8, rfl, -, -⟩ := RL8.sl
  have oL0 : ∀ b, (rtags L0).count b ≤ 1 := fun b => by have := hc1 b; omega
  have oL2 : ∀ b, (rtags L2).count b ≤ 1 := fun b => by have := hc1 b; omega
  have oL4 : ∀ b, (rtags L4).count b ≤ 1 := fun b => by have := hc1 b; omega
  have oL6 : ∀ b, (rtags L6).count b ≤ 1 := fun b => by have := hc1 b; omega
  have oL8 : ∀ b, (rtags L8).count b ≤ 1 := fun b => by have := hc1 b; omega
  obtain ⟨GS, hGS⟩ : ∃ GS : Nat → Prop, GS = fun j => j = bb ∨ 0 < tot L0 L2 L4 L6 L8 j := ⟨_, rfl⟩
  rw [← hGS] at hK
  have gb : GS bb := by rw [hGS]; exact .inl rfl
  have gt : ∀ b, 0 < tot L0 L2 L4 L6 L8 b → GS b := fun b q => by rw [hGS]; exact .inr q
  clear hGS
  unfold tot at gt
  have bl : bb < h.size := B.1
  refine owGrow_H G_grow G_grow_ok _ ?_
  unfold bkE at B
  have B1 := B.1
  simp (disch := first | omega | (simp only [e_ssz, e_psz, e_hszs, List.length_cons, List.length_nil]; try omega; done)) only [↓reduceIte, go_sem, owGrow_S, owGrow_E, B.at, B.2.1]
  have st : Step GS u h u h := .refl _ _ _
  have hz : h.size ≤ h.size := Nat.le_refl _
  -- L0
  obtain ⟨I, hI⟩ : ∃ I : Nat → Env → H → Prop, I = fun i σ h' => ∃ (u' : U) (w : Value), σ 0 = .pointer (some ⟨bb, 0, none⟩) ∧ σ 15 = .slice av0 L0.length cv0 ∧ σ 16 = .int .i64 (L0.length : Nat) ∧ σ 17 = .int .i64 (i : Nat) ∧ i ≤ L0.length ∧ Step GS u h u' h' ∧ Blk u' h' bb [.slice av0 L0.length cv0, w, .slice av2 L2.length cv2, .slice none 0 0, .slice av4 L4.length cv4, .slice none 0 0, .slice av6 L6.length cv6, .slice none 0 0, .slice av8 L8.length cv8, .slice none 0 0] ∧ Own h.size u' h' w ((mks (s := 3) 3 true 1 L0).take i) ∧ h.size ≤ h'.size ∧ Pnd u' L0 i ∧ Pnd u' L2 0 ∧ Pnd u' L4 0 ∧ Pnd u' L6 0 ∧ Pnd u' L8 0 := ⟨_, rfl⟩
  refine wpS_loop I (fun j => L0.length - j) 0 (by rw [hI]; exact ⟨u, .slice none 0 0, by simp [upd], by simp [upd], by simp [upd], by simp [upd], Nat.zero_le _, st, B, .nil _ _ _, Nat.le_refl _, PL0, PL2, PL4, PL6, PL8⟩) ?_
  clear st B B1 PL0 PL2 PL4 PL6 PL8
  have hz0 : h.size ≤ h.size := hz
  clear hz
  intro i σ h1 hy
  rw [hI] at hy
  obtain ⟨u1, w, e0, es, el, ei, hi, st, B, ow, hzL, PL0, PL2, PL4, PL6, PL8⟩ := hy
  have B1 := B.1
  obtain ⟨wa, wc, rfl, -, -⟩ := ow.sl
  have hz : h.size ≤ h1.size := st.ge.sz
  by_cases hlt : i < L0.length
  · obtain ⟨g, hg⟩ : ∃ g, L0[i]? = some g := ⟨L0[i], by simp [hlt]⟩
    have hgn := leL0 g (List.mem_of_getElem? hg)
    have hwl : ((mks (s := 3) 3 true 1 L0).take i).length = i := by rw [List.length_take, mks_len]; omega
    obtain ⟨pb, po, ha, hpb, hpu, hpz, hpr⟩ := (RL0.mono st.ge).row i g hg
    obtain ⟨pb', po', ha', -, -, -, hpr'⟩ := (ML0.mono st.ge).row i _ (mks_at hg)
    rw [ha] at ha'
    cases ha'
    subst ha
    rw [rep_rme] at hpr
    obtain ⟨xv, hpr, rm⟩ := hpr
    rw [rep_list] at hpr'
    obtain ⟨xv', hpr', im⟩ := hpr'
    rw [Nat.add_zero] at im
    simp only [sz_rme, sz_lst, hvs_1, List.cons.injEq, and_true] at hpr hpr' hpu hpz
    obtain rfl : xv = xv' := hpr.symm.trans hpr'
    have ox := own_of im rm (marks_len _ _).symm (PL0 i g hg (Nat.le_refl _))
    have htg : ∀ b, OwnB xv b → g.t = some b := fun b q => room_own rm q
    have htc : ∀ b, OwnB xv b → 0 < (rtags L0).count b := fun b q => tag_mem hg (htg b q)
    have hin1 : ∀ {s : Nat} {L : List (RmE s)}, InH h L → InH h1 L := fun q => InH.mono q hz
    obtain ⟨xa, xc, hxv, -, -⟩ := ox.sl
    rw [marks_len] at hxv
    subst hxv
    have sP := Step.push0 S0 u1 h1 #[.int .i64 9, .int .i64 0, str [], .int .i64 (markF i g.n)] 72
    have BP := B.step0 sP
    have BP1 := BP.1
    simp (disch := first | omega | (simp only [e_ssz, e_psz, e_hszs, List.length_cons, List.length_nil]; try omega; done)) only [↓reduceIte, go_sem, owGrow_L1, e0, es, el, ei, hlt, hpr, B.at, B.2.1]
    refine effS_call ⟨rfl, i, g.n, rfl, ⟨by simp (disch := first | omega | (simp only [e_ssz, e_psz, e_hszs, List.length_cons, List.length_nil]; try omega; done)) only [↓reduceIte, go_sem, e0, B.at, B.2.1], ?_⟩⟩
    simp (disch := first | omega | (simp only [e_ssz, e_psz, e_hszs, List.length_cons, List.length_nil]; try omega; done)) only [↓reduceIte, go_sem, e0, B.at, BP.at, BP.2.1]
    refine effS_app1q rfl ox (x := ⟨markF i g.n⟩) (cs := [.int .i64 9, .int .i64 0, str [], .int .i64 (markF i g.n)]) ⟨rfl, rfl, rfl, fun _ => rfl⟩ rfl rfl (Nat.zero_le _) (by rw [marks_len]; omega) fun a5 n5 c5 u5 h5 o5 s5 hO5 => ?_
    have B5 := B.step s5 (fun q => by have := htc _ q; omega)
    have B51 := B5.1
    refine ⟨by simp (disch := first | omega | (simp only [e_ssz, e_psz, e_hszs, List.length_cons, List.length_nil]; try omega; done)) only [↓reduceIte, go_sem, e0, BP.at, B5.at, B5.2.1], ?_⟩
    rw [← marks_succ] at o5
    have sQ := Step.push0 S0 u5 h5 #[.slice a5 n5 c5] 58
    have BQ := B5.step0 sQ
    have BQ1 := BQ.1
    have ow5 := ow.step s5 (fun b q q2 => by have := ow.ge q; have := htc b q2; have := NL0; have hb := (NL0 g (List.mem_of_getElem? hg) b (htg b q2)); omega)
    simp (disch := first | omega | (simp only [e_ssz, e_psz, e_hszs, List.length_cons, List.length_nil]; try omega; done)) only [↓reduceIte, go_sem, e0, B5.at, BQ.at, BQ.2.1]
    refine effS_app1q rfl ow5 (x := marks i (g.n + 1)) (cs := [.slice a5 n5 c5]) (by rw [rep_list]; exact ⟨_, rfl, o5.isSl⟩) rfl rfl (by have := s5.ge.sz; omega) (by rw [hwl]; omega) fun a7 n7 c7 u7 h7 o7 s7 hO7 => ⟨by simp (disch := first | omega | (simp only [e_ssz, e_psz, e_hszs, List.length_cons, List.length_nil]; try omega; done)) only [go_sem], ?_⟩
    have B7 := B5.step s7 (fun q => by have := ow5.ge q; omega)
    have B71 := B7.1
    have B8 := B7.set (i := 1) (v := .slice a7 n7 c7) (by simp)
    have s8 := B7.stepSet (i := 1) (v := .slice a7 n7 c7)
    obtain ⟨h8, hh8⟩ : ∃ h8, h8 = hset h7 bb 1 (.slice a7 n7 c7) := ⟨_, rfl⟩
    rw [← hh8] at B8 s8
    simp only [List.set_cons_zero, List.set_cons_succ] at B8
    have z5 := s5.ge.sz
    have z7 := s7.ge.sz
    have z8 := s8.ge.sz
    simp (disch := first | omega | (simp only [e_ssz, e_psz, e_hszs, List.length_cons, List.length_nil]; try omega; done)) only [↓reduceIte, go_sem, B7.2.1, B7.2.2.1, ← hh8, e0, ei]
    refine ⟨i + 1, ?_, by omega⟩
    rw [hI]
    have n7 : ∀ {s : Nat} {L : List (RmE s)}, InH h L → ∀ b, 0 < (rtags L).count b → ¬ OwnB (.slice wa ((mks (s := 3) 3 true 1 L0).take i).length wc) b := fun hin b hb q => by
      have := ow5.ge q
      have := tag_in hin hb
      omega
    refine ⟨u7, _, by simp [upd, e0], by simp [upd, es], by simp [upd, el], by simp [upd], hlt, ((st.trans s5 (fun b _ q => gt b (by have := htc b q; omega))).trans s7 (fun b hb q => by have := ow5.ge q; omega)).trans s8 (fun b _ e => by have e : b = bb := e; rw [e]; exact gb), B8, ?_, by omega, (((PL0.next s5 (hin1 NL0) hg oL0 htg).step s7 (InH.mono NL0 (by omega)) (n7 NL0)).step s8 (InH.mono NL0 (by omega)) (fun b q e => by have e : b = bb := e; rw [e] at q; omega)), (((PL2.step s5 (hin1 NL2) (fun b q q2 => by have := htc b q2; have := hc1 b; omega)).step s7 (InH.mono NL2 (by omega)) (n7 NL2)).step s8 (InH.mono NL2 (by omega)) (fun b q e => by have e : b = bb := e; rw [e] at q; omega)), (((PL4.step s5 (hin1 NL4) (fun b q q2 => by have := htc b q2; have := hc1 b; omega)).step s7 (InH.mono NL4 (by omega)) (n7 NL4)).step s8 (InH.mono NL4 (by omega)) (fun b q e => by have e : b = bb := e; rw [e] at q; omega)), (((PL6.step s5 (hin1 NL6) (fun b q q2 => by have := htc b q2; have := hc1 b; omega)).step s7 (InH.mono NL6 (by omega)) (n7 NL6)).step s8 (InH.mono NL6 (by omega)) (fun b q e => by have e : b = bb := e; rw [e] at q; omega)), (((PL8.step s5 (hin1 NL8) (fun b q q2 => by have := htc b q2; have := hc1 b; omega)).step s7 (InH.mono NL8 (by omega)) (n7 NL8)).step s8 (InH.mono NL8 (by omega)) (fun b q e => by have e : b = bb := e; rw [e] at q; omega))⟩
    rw [mks_take hg]
    exact o7.step s8 (fun b q e => by have := o7.ge q; have e : b = bb := e; omega)
  obtain rfl : i = L0.length := by omega
  have htk : (mks (s := 3) 3 true 1 L0).take L0.length = mks 3 true 1 L0 := List.take_of_length_le (by rw [mks_len]; exact Nat.le_refl _)
  have W1 := ow.isSl
  rw [htk] at B W1
  obtain ⟨w1, hw1⟩ : ∃ x, x = Value.slice wa (mks (s := 3) 3 true 1 L0).length wc := ⟨_, rfl⟩
  rw [← hw1] at B W1
  clear hI ow
  simp (disch := first | omega | (simp only [e_ssz, e_psz, e_hszs, List.length_cons, List.length_nil]; try omega; done)) only [↓reduceIte, go_sem, owGrow_L1, e0, el, ei, B.at, B.2.1]
  clear es el ei hi hlt hzL hw1
  -- L2
  obtain ⟨I, hI⟩ : ∃ I : Nat → Env → H → Prop, I = fun i σ h' => ∃ (u' : U) (w : Value), σ 0 = .pointer (some ⟨bb, 0, none⟩) ∧ σ 43 = .slice av2 L2.length cv2 ∧ σ 44 = .int .i64 (L2.length : Nat) ∧ σ 45 = .int .i64 (i : Nat) ∧ i ≤ L2.length ∧ Step GS u h u' h' ∧ Blk u' h' bb [.slice av0 L0.length cv0, w1, .slice av2 L2.length cv2, w, .slice av4 L4.length cv4, .slice none 0 0, .slice av6 L6.length cv6, .slice none 0 0, .slice av8 L8.length cv8, .slice none 0 0] ∧ Own h1.size u' h' w ((mks (s := 13) 13 false 1 L2).take i) ∧ h1.size ≤ h'.size ∧ Pnd u' L2 i ∧ Pnd u' L4 0 ∧ Pnd u' L6 0 ∧ Pnd u' L8 0 ∧ IsSl u' h' w1 (mks 3 true 1 L0) := ⟨_, rfl⟩
  refine wpS_loop I (fun j => L2.length - j) 0 (by rw [hI]; exact ⟨u1, .slice none 0 0, by simp [upd, e0], by simp [upd], by simp [upd], by simp [upd], Nat.zero_le _, st, B, .nil _ _ _, Nat.le_refl _, PL2, PL4, PL6, PL8, W1⟩) ?_
  clear st B B1 PL2 PL4 PL6 PL8 W1 e0
  have hz1 : h.size ≤ h1.size := hz
  clear hz
  intro i σ h2 hy
  rw [hI] at hy
  obtain ⟨u2, w, e0, es, el, ei, hi, st, B, ow, hzL, PL2, PL4, PL6, PL8, W1⟩ := hy
  have B1 := B.1
  obtain ⟨wa, wc, rfl, -, -⟩ := ow.sl
  have hz : h.size ≤ h2.size := st.ge.sz
  by_cases hlt : i < L2.length
  · obtain ⟨g, hg⟩ : ∃ g, L2[i]? = some g := ⟨L2[i], by simp [hlt]⟩
    have hgn := leL2 g (List.mem_of_getElem? hg)
    have hwl : ((mks (s := 13) 13 false 1 L2).take i).length = i := by rw [List.length_take, mks_len]; omega
    obtain ⟨pb, po, ha, hpb, hpu, hpz, hpr⟩ := (RL2.mono st.ge).row i g hg
    obtain ⟨pb', po', ha', -, -, -, hpr'⟩ := (ML2.mono st.ge).row i _ (mks_at hg)
    rw [ha] at ha'
    cases ha'
    subst ha
    rw [rep_rme] at hpr
    obtain ⟨xv, hpr, rm⟩ := hpr
    rw [rep_list] at hpr'
    obtain ⟨xv', hpr', im⟩ := hpr'
    rw [Nat.add_zero] at im
    simp only [sz_rme, sz_lst, hvs_1, List.cons.injEq, and_true] at hpr hpr' hpu hpz
    obtain rfl : xv = xv' := hpr.symm.trans hpr'
    have ox := own_of im rm (marks_len _ _).symm (PL2 i g hg (Nat.le_refl _))
    have htg : ∀ b, OwnB xv b → g.t = some b := fun b q => room_own rm q
    have htc : ∀ b, OwnB xv b → 0 < (rtags L2).count b := fun b q => tag_mem hg (htg b q)
    have hin1 : ∀ {s : Nat} {L : List (RmE s)}, InH h L → InH h2 L := fun q => InH.mono q hz
    obtain ⟨xa, xc, hxv, -, -⟩ := ox.sl
    rw [marks_len] at hxv
    subst hxv
    have sP := Step.push0 S0 u2 h2 #[.int .i64 0, str [], .slice none 0 0, .int .i64 0, .int .i64 0, .int .i64 0, .int .i64 0, str [], .int .i64 0, .int .i64 0, .int .i64 0, str [], .int .i64 0, .int .i64 (markF i g.n)] 74
    have BP := B.step0 sP
    have BP1 := BP.1
    simp (disch := first | omega | (simp only [e_ssz, e_psz, e_hszs, List.length_cons, List.length_nil]; try omega; done)) only [↓reduceIte, go_sem, owGrow_L2, e0, es, el, ei, hlt, hpr, B.at, B.2.1]
    refine effS_call ⟨rfl, i, g.n, rfl, ⟨by simp (disch := first | omega | (simp only [e_ssz, e_psz, e_hszs, List.length_cons, List.length_nil]; try omega; done)) only [↓reduceIte, go_sem, e0, B.at, B.2.1], ?_⟩⟩
    simp (disch := first | omega | (simp only [e_ssz, e_psz, e_hszs, List.length_cons, List.length_nil]; try omega; done)) only [↓reduceIte, go_sem, e0, B.at, BP.at, BP.2.1]
    refine effS_app1q rfl ox (x := ⟨markF i g.n⟩) (cs := [.int .i64 0, str [], .slice none 0 0, .int .i64 0, .int .i64 0, .int .i64 0, .int .i64 0, str [], .int .i64 0, .int .i64 0, .int .i64 0, str [], .int .i64 0, .int .i64 (markF i g.n)]) ⟨rfl, rfl, rfl, fun q => by cases q⟩ rfl rfl (Nat.zero_le _) (by rw [marks_len]; omega) fun a5 n5 c5 u5 h5 o5 s5 hO5 => ?_
    have B5 := B.step s5 (fun q => by have := htc _ q; omega)
    have B51 := B5.1
    refine ⟨by simp (disch := first | omega | (simp only [e_ssz, e_psz, e_hszs, List.length_cons, List.length_nil]; try omega; done)) only [↓reduceIte, go_sem, e0, BP.at, B5.at, B5.2.1], ?_⟩
    rw [← marks_succ] at o5
    have sQ := Step.push0 S0 u5 h5 #[.slice a5 n5 c5] 28
    have BQ := B5.step0 sQ
    have BQ1 := BQ.1
    have ow5 := ow.step s5 (fun b q q2 => by have := ow.ge q; have := htc b q2; have := NL2; have hb := (NL2 g (List.mem_of_getElem? hg) b (htg b q2)); omega)
    simp (disch := first | omega | (simp only [e_ssz, e_psz, e_hszs, List.length_cons, List.length_nil]; try omega; done)) only [↓reduceIte, go_sem, e0, B5.at, BQ.at, BQ.2.1]
    refine effS_app1q rfl ow5 (x := marks i (g.n + 1)) (cs := [.slice a5 n5 c5]) (by rw [rep_list]; exact ⟨_, rfl, o5.isSl⟩) rfl rfl (by have := s5.ge.sz; omega) (by rw [hwl]; omega) fun a7 n7 c7 u7 h7 o7 s7 hO7 => ⟨by simp (disch := first | omega | (simp only [e_ssz, e_psz, e_hszs, List.length_cons, List.length_nil]; try omega; done)) only [go_sem], ?_⟩
    have B7 := B5.step s7 (fun q => by have := ow5.ge q; omega)
    have B71 := B7.1
    have B8 := B7.set (i := 3) (v := .slice a7 n7 c7) (by simp)
    have s8 := B7.stepSet (i := 3) (v := .slice a7 n7 c7)
    obtain ⟨h8, hh8⟩ : ∃ h8, h8 = hset h7 bb 3 (.slice a7 n7 c7) := ⟨_, rfl⟩
    rw [← hh8] at B8 s8
    simp only [List.set_cons_zero, List.set_cons_succ] at B8
    have z5 := s5.ge.sz
    have z7 := s7.ge.sz
    have z8 := s8.ge.sz
    simp (disch := first | omega | (simp only [e_ssz, e_psz, e_hszs, List.length_cons, List.length_nil]; try omega; done)) only [↓reduceIte, go_sem, B7.2.1, B7.2.2.1, ← hh8, e0, ei]
    refine ⟨i + 1, ?_, by omega⟩
    rw [hI]
    have n7 : ∀ {s : Nat} {L : List (RmE s)}, InH h L → ∀ b, 0 < (rtags L).count b → ¬ OwnB (.slice wa ((mks (s := 13) 13 false 1 L2).take i).length wc) b := fun hin b hb q => by
      have := ow5.ge q
      have := tag_in hin hb
      omega
    refine ⟨u7, _, by simp [upd, e0], by simp [upd, es], by simp [upd, el], by simp [upd], hlt, ((st.trans s5 (fun b _ q => gt b (by have := htc b q; omega))).trans s7 (fun b hb q => by have := ow5.ge q; omega)).trans s8 (fun b _ e => by have e : b = bb := e; rw [e]; exact gb), B8, ?_, by omega, (((PL2.next s5 (hin1 NL2) hg oL2 htg).step s7 (InH.mono NL2 (by omega)) (n7 NL2)).step s8 (InH.mono NL2 (by omega)) (fun b q e => by have e : b = bb := e; rw [e] at q; omega)), (((PL4.step s5 (hin1 NL4) (fun b q q2 => by have := htc b q2; have := hc1 b; omega)).step s7 (InH.mono NL4 (by omega)) (n7 NL4)).step s8 (InH.mono NL4 (by omega)) (fun b q e => by have e : b = bb := e; rw [e] at q; omega)), (((PL6.step s5 (hin1 NL6) (fun b q q2 => by have := htc b q2; have := hc1 b; omega)).step s7 (InH.mono NL6 (by omega)) (n7 NL6)).step s8 (InH.mono NL6 (by omega)) (fun b q e => by have e : b = bb := e; rw [e] at q; omega)), (((PL8.step s5 (hin1 NL8) (fun b q q2 => by have := htc b q2; have := hc1 b; omega)).step s7 (InH.mono NL8 (by omega)) (n7 NL8)).step s8 (InH.mono NL8 (by omega)) (fun b q e => by have e : b = bb := e; rw [e] at q; omega)), ((W1.mono s5.ge).mono s7.ge).mono s8.ge⟩
    rw [mks_take hg]
    exact o7.step s8 (fun b q e => by have := o7.ge q; have e : b = bb := e; omega)
  obtain rfl : i = L2.length := by omega
  have htk : (mks (s := 13) 13 false 1 L2).take L2.length = mks 13 false 1 L2 := List.take_of_length_le (by rw [mks_len]; exact Nat.le_refl _)
  have W3 := ow.isSl
  rw [htk] at B W3
  obtain ⟨w3, hw3⟩ : ∃ x, x = Value.slice wa (mks (s := 13) 13 false 1 L2).length wc := ⟨_, rfl⟩
  rw [← hw3] at B W3
  clear hI ow
  simp (disch := first | omega | (simp only [e_ssz, e_psz, e_hszs, List.length_cons, List.length_nil]; try omega; done)) only [↓reduceIte, go_sem, owGrow_L2, e0, el, ei, B.at, B.2.1]
  clear es el ei hi hlt hzL hw3
  -- L4
  obtain ⟨I, hI⟩ : ∃ I : Nat → Env → H → Prop, I = fun i σ h' => ∃ (u' : U) (w : Value), σ 0 = .pointer (some ⟨bb, 0, none⟩) ∧ σ 71 = .slice av4 L4.length cv4 ∧ σ 72 = .int .i64 (L4.length : Nat) ∧ σ 73 = .int .i64 (i : Nat) ∧ i ≤ L4.length ∧ Step GS u h u' h' ∧ Blk u' h' bb [.slice av0 L0.length cv0, w1, .slice av2 L2.length cv2, w3, .slice av4 L4.length cv4, w, .slice av6 L6.length cv6, .slice none 0 0, .slice av8 L8.length cv8, .slice none 0 0] ∧ Own h2.size u' h' w ((mks (s := 3) 2 false 1 L4).take i) ∧ h2.size ≤ h'.size ∧ Pnd u' L4 i ∧ Pnd u' L6 0 ∧ Pnd u' L8 0 ∧ IsSl u' h' w1 (mks 3 true 1 L0) ∧ IsSl u' h' w3 (mks 13 false 1 L2) := ⟨_, rfl⟩
  refine wpS_loop I (fun j => L4.length - j) 0 (by rw [hI]; exact ⟨u2, .slice none 0 0, by simp [upd, e0], by simp [upd], by simp [upd], by simp [upd], Nat.zero_le _, st, B, .nil _ _ _, Nat.le_refl _, PL4, PL6, PL8, W1, W3⟩) ?_
  clear st B B1 PL4 PL6 PL8 W1 W3 e0
  have hz2 : h.size ≤ h2.size := hz
  clear hz
  intro i σ h3 hy
  rw [hI] at hy
  obtain ⟨u3, w, e0, es, el, ei, hi, st, B, ow, hzL, PL4, PL6, PL8, W1, W3⟩ := hy
  have B1 := B.1
  obtain ⟨wa, wc, rfl, -, -⟩ := ow.sl
  have hz : h.size ≤ h3.size := st.ge.sz
  by_cases hlt : i < L4.length
  · obtain ⟨g, hg⟩ : ∃ g, L4[i]? = some g := ⟨L4[i], by simp [hlt]⟩
    have hgn := leL4 g (List.mem_of_getElem? hg)
    have hwl : ((mks (s := 3) 2 false 1 L4).take i).length = i := by rw [List.length_take, mks_len]; omega
    obtain ⟨pb, po, ha, hpb, hpu, hpz, hpr⟩ := (RL4.mono st.ge).row i g hg
    obtain ⟨pb', po', ha', -, -, -, hpr'⟩ := (ML4.mono st.ge).row i _ (mks_at hg)
    rw [ha] at ha'
    cases ha'
    subst ha
    rw [rep_rme] at hpr
    obtain ⟨xv, hpr, rm⟩ := hpr
    rw [rep_list] at hpr'
    obtain ⟨xv', hpr', im⟩ := hpr'
    rw [Nat.add_zero] at im
    simp only [sz_rme, sz_lst, hvs_1, List.cons.injEq, and_true] at hpr hpr' hpu hpz
    obtain rfl : xv = xv' := hpr.symm.trans hpr'
    have ox := own_of im rm (marks_len _ _).symm (PL4 i g hg (Nat.le_refl _))
    have htg : ∀ b, OwnB xv b → g.t = some b := fun b q => room_own rm q
    have htc : ∀ b, OwnB xv b → 0 < (rtags L4).count b := fun b q => tag_mem hg (htg b q)
    have hin1 : ∀ {s : Nat} {L : List (RmE s)}, InH h L → InH h3 L := fun q => InH.mono q hz
    obtain ⟨xa, xc, hxv, -, -⟩ := ox.sl
    rw [marks_len] at hxv
    subst hxv
    have sP := Step.push0 S0 u3 h3 #[str [], .slice none 0 0, .int .i64 (markF i g.n), .slice none 0 0] 62
    have BP := B.step0 sP
    have BP1 := BP.1
    simp (disch := first | omega | (simp only [e_ssz, e_psz, e_hszs, List.length_cons, List.length_nil]; try omega; done)) only [↓reduceIte, go_sem, owGrow_L3, e0, es, el, ei, hlt, hpr, B.at, B.2.1]
    refine effS_call ⟨rfl, i, g.n, rfl, ⟨by simp (disch := first | omega | (simp only [e_ssz, e_psz, e_hszs, List.length_cons, List.length_nil]; try omega; done)) only [↓reduceIte, go_sem, e0, B.at, B.2.1], ?_⟩⟩
    simp (disch := first | omega | (simp only [e_ssz, e_psz, e_hszs, List.length_cons, List.length_nil]; try omega; done)) only [↓reduceIte, go_sem, e0, B.at, BP.at, BP.2.1]
    refine effS_app1q rfl ox (x := ⟨markF i g.n⟩) (cs := [str [], .slice none 0 0, .int .i64 (markF i g.n), .slice none 0 0]) ⟨rfl, rfl, rfl, fun q => by cases q⟩ rfl rfl (Nat.zero_le _) (by rw [marks_len]; omega) fun a5 n5 c5 u5 h5 o5 s5 hO5 => ?_
    have B5 := B.step s5 (fun q => by have := htc _ q; omega)
    have B51 := B5.1
    refine ⟨by simp (disch := first | omega | (simp only [e_ssz, e_psz, e_hszs, List.length_cons, List.length_nil]; try omega; done)) only [↓reduceIte, go_sem, e0, BP.at, B5.at, B5.2.1], ?_⟩
    rw [← marks_succ] at o5
    have sQ := Step.push0 S0 u5 h5 #[.slice a5 n5 c5] 22
    have BQ := B5.step0 sQ
    have BQ1 := BQ.1
    have ow5 := ow.step s5 (fun b q q2 => by have := ow.ge q; have := htc b q2; have := NL4; have hb := (NL4 g (List.mem_of_getElem? hg) b (htg b q2)); omega)
    simp (disch := first | omega | (simp only [e_ssz, e_psz, e_hszs, List.length_cons, List.length_nil]; try omega; done)) only [↓reduceIte, go_sem, e0, B5.at, BQ.at, BQ.2.1]
    refine effS_app1q rfl ow5 (x := marks i (g.n + 1)) (cs := [.slice a5 n5 c5]) (by rw [rep_list]; exact ⟨_, rfl, o5.isSl⟩) rfl rfl (by have := s5.ge.sz; omega) (by rw [hwl]; omega) fun a7 n7 c7 u7 h7 o7 s7 hO7 => ⟨by simp (disch := first | omega | (simp only [e_ssz, e_psz, e_hszs, List.length_cons, List.length_nil]; try omega; done)) only [go_sem], ?_⟩
    have B7 := B5.step s7 (fun q => by have := ow5.ge q; omega)
    have B71 := B7.1
    have B8 := B7.set (i := 5) (v := .slice a7 n7 c7) (by simp)
    have s8 := B7.stepSet (i := 5) (v := .slice a7 n7 c7)
    obtain ⟨h8, hh8⟩ : ∃ h8, h8 = hset h7 bb 5 (.slice a7 n7 c7) := ⟨_, rfl⟩
    rw [← hh8] at B8 s8
    simp only [List.set_cons_zero, List.set_cons_succ] at B8
    have z5 := s5.ge.sz
    have z7 := s7.ge.sz
    have z8 := s8.ge.sz
    simp (disch := first | omega | (simp only [e_ssz, e_psz, e_hszs, List.length_cons, List.length_nil]; try omega; done)) only [↓reduceIte, go_sem, B7.2.1, B7.2.2.1, ← hh8, e0, ei]
    refine ⟨i + 1, ?_, by omega⟩
    rw [hI]
    have n7 : ∀ {s : Nat} {L : List (RmE s)}, InH h L → ∀ b, 0 < (rtags L).count b → ¬ OwnB (.slice wa ((mks (s := 3) 2 false 1 L4).take i).length wc) b := fun hin b hb q => by
      have := ow5.ge q
      have := tag_in hin hb
      omega
    refine ⟨u7, _, by simp [upd, e0], by simp [upd, es], by simp [upd, el], by simp [upd], hlt, ((st.trans s5 (fun b _ q => gt b (by have := htc b q; omega))).trans s7 (fun b hb q => by have := ow5.ge q; omega)).trans s8 (fun b _ e => by have e : b = bb := e; rw [e]; exact gb), B8, ?_, by omega, (((PL4.next s5 (hin1 NL4) hg oL4 htg).step s7 (InH.mono NL4 (by omega)) (n7 NL4)).step s8 (InH.mono NL4 (by omega)) (fun b q e => by have e : b = bb := e; rw [e] at q; omega)), (((PL6.step s5 (hin1 NL6) (fun b q q2 => by have := htc b q2; have := hc1 b; omega)).step s7 (InH.mono NL6 (by omega)) (n7 NL6)).step s8 (InH.mono NL6 (by omega)) (fun b q e => by have e : b = bb := e; rw [e] at q; omega)), (((PL8.step s5 (hin1 NL8) (fun b q q2 => by have := htc b q2; have := hc1 b; omega)).step s7 (InH.mono NL8 (by omega)) (n7 NL8)).step s8 (InH.mono NL8 (by omega)) (fun b q e => by have e : b = bb := e; rw [e] at q; omega)), ((W1.mono s5.ge).mono s7.ge).mono s8.ge, ((W3.mono s5.ge).mono s7.ge).mono s8.ge⟩
    rw [mks_take hg]
    exact o7.step s8 (fun b q e => by have := o7.ge q; have e : b = bb := e; omega)
  obtain rfl : i = L4.length := by omega
  have htk : (mks (s := 3) 2 false 1 L4).take L4.length = mks 2 false 1 L4 := List.take_of_length_le (by rw [mks_len]; exact Nat.le_refl _)
  have W5 := ow.isSl
  rw [htk] at B W5
  obtain ⟨w5, hw5⟩ : ∃ x, x = Value.slice wa (mks (s := 3) 2 false 1 L4).length wc := ⟨_, rfl⟩
  rw [← hw5] at B W5
  clear hI ow
  simp (disch := first | omega | (simp only [e_ssz, e_psz, e_hszs, List.length_cons, List.length_nil]; try omega; done)) only [↓reduceIte, go_sem, owGrow_L3, e0, el, ei, B.at, B.2.1]
  clear es el ei hi hlt hzL hw5
  -- L6
  obtain ⟨I, hI⟩ : ∃ I : Nat → Env → H → Prop, I = fun i σ h' => ∃ (u' : U) (w : Value), σ 0 = .pointer (some ⟨bb, 0, none⟩) ∧ σ 100 = .slice av6 L6.length cv6 ∧ σ 101 = .int .i64 (L6.length : Nat) ∧ σ 102 = .int .i64 (i : Nat) ∧ i ≤ L6.length ∧ Step GS u h u' h' ∧ Blk u' h' bb [.slice av0 L0.length cv0, w1, .slice av2 L2.length cv2, w3, .slice av4 L4.length cv4, w5, .slice av6 L6.length cv6, w, .slice av8 L8.length cv8, .slice none 0 0] ∧ Own h3.size u' h' w ((mks (s := 2) 2 false 1 L6).take i) ∧ h3.size ≤ h'.size ∧ Pnd u' L6 i ∧ Pnd u' L8 0 ∧ IsSl u' h' w1 (mks 3 true 1 L0) ∧ IsSl u' h' w3 (mks 13 false 1 L2) ∧ IsSl u' h' w5 (mks 2 false 1 L4) := ⟨_, rfl⟩
  refine wpS_loop I (fun j => L6.length - j) 0 (by rw [hI]; exact ⟨u3, .slice none 0 0, by simp [upd, e0], by simp [upd], by simp [upd], by simp [upd], Nat.zero_le _, st, B, .nil _ _ _, Nat.le_refl _, PL6, PL8, W1, W3, W5⟩) ?_
  clear st B B1 PL6 PL8 W1 W3 W5 e0
  have hz3 : h.size ≤ h3.size := hz
  clear hz
  intro i σ h4 hy
  rw [hI] at hy
  obtain ⟨u4, w, e0, es, el, ei, hi, st, B, ow, hzL, PL6, PL8, W1, W3, W5⟩ := hy
  have B1 := B.1
  obtain ⟨wa, wc, rfl, -, -⟩ := ow.sl
  have hz : h.size ≤ h4.size := st.ge.sz
  by_cases hlt : i < L6.length
  · obtain ⟨g, hg⟩ : ∃ g, L6[i]? = some g := ⟨L6[i], by simp [hlt]⟩
    have hgn := leL6 g (List.mem_of_getElem? hg)
    have hwl : ((mks (s := 2) 2 false 1 L6).take i).length = i := by rw [List.length_take, mks_len]; omega
    obtain ⟨pb, po, ha, hpb, hpu, hpz, hpr⟩ := (RL6.mono st.ge).row i g hg
    obtain ⟨pb', po', ha', -, -, -, hpr'⟩ := (ML6.mono st.ge).row i _ (mks_at hg)
    rw [ha] at ha'
    cases ha'
    subst ha
    rw [rep_rme] at hpr
    obtain ⟨xv, hpr, rm⟩ := hpr
    rw [rep_list] at hpr'
    obtain ⟨xv', hpr', im⟩ := hpr'
    rw [Nat.add_zero] at im
    simp only [sz_rme, sz_lst, hvs_1, List.cons.injEq, and_true] at hpr hpr' hpu hpz
    obtain rfl : xv = xv' := hpr.symm.trans hpr'
    have ox := own_of im rm (marks_len _ _).symm (PL6 i g hg (Nat.le_refl _))
    have htg : ∀ b, OwnB xv b → g.t = some b := fun b q => room_own rm q
    have htc : ∀ b, OwnB xv b → 0 < (rtags L6).count b := fun b q => tag_mem hg (htg b q)
    have hin1 : ∀ {s : Nat} {L : List (RmE s)}, InH h L → InH h4 L := fun q => InH.mono q hz
    obtain ⟨xa, xc, hxv, -, -⟩ := ox.sl
    rw [marks_len] at hxv
    subst hxv
    have sP := Step.push0 S0 u4 h4 #[str [], .slice none 0 0, .int .i64 (markF i g.n)] 60
    have BP := B.step0 sP
    have BP1 := BP.1
    simp (disch := first | omega | (simp only [e_ssz, e_psz, e_hszs, List.length_cons, List.length_nil]; try omega; done)) only [↓reduceIte, go_sem, owGrow_L4, e0, es, el, ei, hlt, hpr, B.at, B.2.1]
    refine effS_call ⟨rfl, i, g.n, rfl, ⟨by simp (disch := first | omega | (simp only [e_ssz, e_psz, e_hszs, List.length_cons, List.length_nil]; try omega; done)) only [↓reduceIte, go_sem, e0, B.at, B.2.1], ?_⟩⟩
    simp (disch := first | omega | (simp only [e_ssz, e_psz, e_hszs, List.length_cons, List.length_nil]; try omega; done)) only [↓reduceIte, go_sem, e0, B.at, BP.at, BP.2.1]
    refine effS_app1q rfl ox (x := ⟨markF i g.n⟩) (cs := [str [], .slice none 0 0, .int .i64 (markF i g.n)]) ⟨rfl, rfl, rfl, fun q => by cases q⟩ rfl rfl (Nat.zero_le _) (by rw [marks_len]; omega) fun a5 n5 c5 u5 h5 o5 s5 hO5 => ?_
    have B5 := B.step s5 (fun q => by have := htc _ q; omega)
    have B51 := B5.1
    refine ⟨by simp (disch := first | omega | (simp only [e_ssz, e_psz, e_hszs, List.length_cons, List.length_nil]; try omega; done)) only [↓reduceIte, go_sem, e0, BP.at, B5.at, B5.2.1], ?_⟩
    rw [← marks_succ] at o5
    have sQ := Step.push0 S0 u5 h5 #[.slice a5 n5 c5] 29
    have BQ := B5.step0 sQ
    have BQ1 := BQ.1
    have ow5 := ow.step s5 (fun b q q2 => by have := ow.ge q; have := htc b q2; have := NL6; have hb := (NL6 g (List.mem_of_getElem? hg) b (htg b q2)); omega)
    simp (disch := first | omega | (simp only [e_ssz, e_psz, e_hszs, List.length_cons, List.length_nil]; try omega; done)) only [↓reduceIte, go_sem, e0, B5.at, BQ.at, BQ.2.1]
    refine effS_app1q rfl ow5 (x := marks i (g.n + 1)) (cs := [.slice a5 n5 c5]) (by rw [rep_list]; exact ⟨_, rfl, o5.isSl⟩) rfl rfl (by have := s5.ge.sz; omega) (by rw [hwl]; omega) fun a7 n7 c7 u7 h7 o7 s7 hO7 => ⟨by simp (disch := first | omega | (simp only [e_ssz, e_psz, e_hszs, List.length_cons, List.length_nil]; try omega; done)) only [go_sem], ?_⟩
    have B7 := B5.step s7 (fun q => by have := ow5.ge q; omega)
    have B71 := B7.1
    have B8 := B7.set (i := 7) (v := .slice a7 n7 c7) (by simp)
    have s8 := B7.stepSet (i := 7) (v := .slice a7 n7 c7)
    obtain ⟨h8, hh8⟩ : ∃ h8, h8 = hset h7 bb 7 (.slice a7 n7 c7) := ⟨_, rfl⟩
    rw [← hh8] at B8 s8
    simp only [List.set_cons_zero, List.set_cons_succ] at B8
    have z5 := s5.ge.sz
    have z7 := s7.ge.sz
    have z8 := s8.ge.sz
    simp (disch := first | omega | (simp only [e_ssz, e_psz, e_hszs, List.length_cons, List.length_nil]; try omega; done)) only [↓reduceIte, go_sem, B7.2.1, B7.2.2.1, ← hh8, e0, ei]
    refine ⟨i + 1, ?_, by omega⟩
    rw [hI]
    have n7 : ∀ {s : Nat} {L : List (RmE s)}, InH h L → ∀ b, 0 < (rtags L).count b → ¬ OwnB (.slice wa ((mks (s := 2) 2 false 1 L6).take i).length wc) b := fun hin b hb q => by
      have := ow5.ge q
      have := tag_in hin hb
      omega
    refine ⟨u7, _, by simp [upd, e0], by simp [upd, es], by simp [upd, el], by simp [upd], hlt, ((st.trans s5 (fun b _ q => gt b (by have := htc b q; omega))).trans s7 (fun b hb q => by have := ow5.ge q; omega)).trans s8 (fun b _ e => by have e : b = bb := e; rw [e]; exact gb), B8, ?_, by omega, (((PL6.next s5 (hin1 NL6) hg oL6 htg).step s7 (InH.mono NL6 (by omega)) (n7 NL6)).step s8 (InH.mono NL6 (by omega)) (fun b q e => by have e : b = bb := e; rw [e] at q; omega)), (((PL8.step s5 (hin1 NL8) (fun b q q2 => by have := htc b q2; have := hc1 b; omega)).step s7 (InH.mono NL8 (by omega)) (n7 NL8)).step s8 (InH.mono NL8 (by omega)) (fun b q e => by have e : b = bb := e; rw [e] at q; omega)), ((W1.mono s5.ge).mono s7.ge).mono s8.ge, ((W3.mono s5.ge).mono s7.ge).mono s8.ge, ((W5.mono s5.ge).mono s7.ge).mono s8.ge⟩
    rw [mks_take hg]
    exact o7.step s8 (fun b q e => by have := o7.ge q; have e : b = bb := e; omega)
  obtain rfl : i = L6.length := by omega
  have htk : (mks (s := 2) 2 false 1 L6).take L6.length = mks 2 false 1 L6 := List.take_of_length_le (by rw [mks_len]; exact Nat.le_refl _)
  have W7 := ow.isSl
  rw [htk] at B W7
  obtain ⟨w7, hw7⟩ : ∃ x, x = Value.slice wa (mks (s := 2) 2 false 1 L6).length wc := ⟨_, rfl⟩
  rw [← hw7] at B W7
  clear hI ow
  simp (disch := first | omega | (simp only [e_ssz, e_psz, e_hszs, List.length_cons, List.length_nil]; try omega; done)) only [↓reduceIte, go_sem, owGrow_L4, e0, el, ei, B.at, B.2.1]
  clear es el ei hi hlt hzL hw7
  -- L8
  obtain ⟨I, hI⟩ : ∃ I : Nat → Env → H → Prop, I = fun i σ h' => ∃ (u' : U) (w : Value), σ 0 = .pointer (some ⟨bb, 0, none⟩) ∧ σ 128 = .slice av8 L8.length cv8 ∧ σ 129 = .int .i64 (L8.length : Nat) ∧ σ 130 = .int .i64 (i : Nat) ∧ i ≤ L8.length ∧ Step GS u h u' h' ∧ Blk u' h' bb [.slice av0 L0.length cv0, w1, .slice av2 L2.length cv2, w3, .slice av4 L4.length cv4, w5, .slice av6 L6.length cv6, w7, .slice av8 L8.length cv8, w] ∧ Own h4.size u' h' w ((mks (s := 2) 1 false 1 L8).take i) ∧ h4.size ≤ h'.size ∧ Pnd u' L8 i ∧ IsSl u' h' w1 (mks 3 true 1 L0) ∧ IsSl u' h' w3 (mks 13 false 1 L2) ∧ IsSl u' h' w5 (mks 2 false 1 L4) ∧ IsSl u' h' w7 (mks 2 false 1 L6) := ⟨_, rfl⟩
  refine wpS_loop I (fun j => L8.length - j) 0 (by rw [hI]; exact ⟨u4, .slice none 0 0, by simp [upd, e0], by simp [upd], by simp [upd], by simp [upd], Nat.zero_le _, st, B, .nil _ _ _, Nat.le_refl _, PL8, W1, W3, W5, W7⟩) ?_
  clear st B B1 PL8 W1 W3 W5 W7 e0
  have hz4 : h.size ≤ h4.size := hz
  clear hz
  intro i σ h5 hy
  rw [hI] at hy
  obtain ⟨u5, w, e0, es, el, ei, hi, st, B, ow, hzL, PL8, W1, W3, W5, W7⟩ := hy
  have B1 := B.1
  obtain ⟨wa, wc, rfl, -, -⟩ := ow.sl
  have hz : h.size ≤ h5.size := st.ge.sz
  by_cases hlt : i < L8.length
  · obtain ⟨g, hg⟩ : ∃ g, L8[i]? = some g := ⟨L8[i], by simp [hlt]⟩
    have hgn := leL8 g (List.mem_of_getElem? hg)
    have hwl : ((mks (s := 2) 1 false 1 L8).take i).length = i := by rw [List.length_take, mks_len]; omega
    obtain ⟨pb, po, ha, hpb, hpu, hpz, hpr⟩ := (RL8.mono st.ge).row i g hg
    obtain ⟨pb', po', ha', -, -, -, hpr'⟩ := (ML8.mono st.ge).row i _ (mks_at hg)
    rw [ha] at ha'
    cases ha'
    subst ha
    rw [rep_rme] at hpr
    obtain ⟨xv, hpr, rm⟩ := hpr
    rw [rep_list] at hpr'
    obtain ⟨xv', hpr', im⟩ := hpr'
    rw [Nat.add_zero] at im
    simp only [sz_rme, sz_lst, hvs_1, List.cons.injEq, and_true] at hpr hpr' hpu hpz
    obtain rfl : xv = xv' := hpr.symm.trans hpr'
    have ox := own_of im rm (marks_len _ _).symm (PL8 i g hg (Nat.le_refl _))
    have htg : ∀ b, OwnB xv b → g.t = some b := fun b q => room_own rm q
    have htc : ∀ b, OwnB xv b → 0 < (rtags L8).count b := fun b q => tag_mem hg (htg b q)
    have hin1 : ∀ {s : Nat} {L : List (RmE s)}, InH h L → InH h5 L := fun q => InH.mono q hz
    obtain ⟨xa, xc, hxv, -, -⟩ := ox.sl
    rw [marks_len] at hxv
    subst hxv
    have sP := Step.push0 S0 u5 h5 #[.int .i64 9, .int .i64 (markF i g.n), str []] 76
    have BP := B.step0 sP
    have BP1 := BP.1
    simp (disch := first | omega | (simp only [e_ssz, e_psz, e_hszs, List.length_cons, List.length_nil]; try omega; done)) only [↓reduceIte, go_sem, owGrow_L5, e0, es, el, ei, hlt, hpr, B.at, B.2.1]
    refine effS_call ⟨rfl, i, g.n, rfl, ⟨by simp (disch := first | omega | (simp only [e_ssz, e_psz, e_hszs, List.length_cons, List.length_nil]; try omega; done)) only [↓reduceIte, go_sem, e0, B.at, B.2.1], ?_⟩⟩
    simp (disch := first | omega | (simp only [e_ssz, e_psz, e_hszs, List.length_cons, List.length_nil]; try omega; done)) only [↓reduceIte, go_sem, e0, B.at, BP.at, BP.2.1]
    refine effS_app1q rfl ox (x := ⟨markF i g.n⟩) (cs := [.int .i64 9, .int .i64 (markF i g.n), str []]) ⟨rfl, rfl, rfl, fun q => by cases q⟩ rfl rfl (Nat.zero_le _) (by rw [marks_len]; omega) fun a5 n5 c5 u5 h5 o5 s5 hO5 => ?_
    have B5 := B.step s5 (fun q => by have := htc _ q; omega)
    have B51 := B5.1
    refine ⟨by simp (disch := first | omega | (simp only [e_ssz, e_psz, e_hszs, List.length_cons, List.length_nil]; try omega; done)) only [↓reduceIte, go_sem, e0, BP.at, B5.at, B5.2.1], ?_⟩
    rw [← marks_succ] at o5
    have sQ := Step.push0 S0 u5 h5 #[.slice a5 n5 c5] 30
    have BQ := B5.step0 sQ
    have BQ1 := BQ.1
    have ow5 := ow.step s5 (fun b q q2 => by have := ow.ge q; have := htc b q2; have := NL8; have hb := (NL8 g (List.mem_of_getElem? hg) b (htg b q2)); omega)
    simp (disch := first | omega | (simp only [e_ssz, e_psz, e_hszs, List.length_cons, List.length_nil]; try omega; done)) only [↓reduceIte, go_sem, e0, B5.at, BQ.at, BQ.2.1]
    refine effS_app1q rfl ow5 (x := marks i (g.n + 1)) (cs := [.slice a5 n5 c5]) (by rw [rep_list]; exact ⟨_, rfl, o5.isSl⟩) rfl rfl (by have := s5.ge.sz; omega) (by rw [hwl]; omega) fun a7 n7 c7 u7 h7 o7 s7 hO7 => ⟨by simp (disch := first | omega | (simp only [e_ssz, e_psz, e_hszs, List.length_cons, List.length_nil]; try omega; done)) only [go_sem], ?_⟩
    have B7 := B5.step s7 (fun q => by have := ow5.ge q; omega)
    have B71 := B7.1
    have B8 := B7.set (i := 9) (v := .slice a7 n7 c7) (by simp)
    have s8 := B7.stepSet (i := 9) (v := .slice a7 n7 c7)
    obtain ⟨h8, hh8⟩ : ∃ h8, h8 = hset h7 bb 9 (.slice a7 n7 c7) := ⟨_, rfl⟩
    rw [← hh8] at B8 s8
    simp only [List.set_cons_zero, List.set_cons_succ] at B8
    have z5 := s5.ge.sz
    have z7 := s7.ge.sz
    have z8 := s8.ge.sz
    simp (disch := first | omega | (simp only [e_ssz, e_psz, e_hszs, List.length_cons, List.length_nil]; try omega; done)) only [↓reduceIte, go_sem, B7.2.1, B7.2.2.1, ← hh8, e0, ei]
    refine ⟨i + 1, ?_, by omega⟩
    rw [hI]
    have n7 : ∀ {s : Nat} {L : List (RmE s)}, InH h L → ∀ b, 0 < (rtags L).count b → ¬ OwnB (.slice wa ((mks (s := 2) 1 false 1 L8).take i).length wc) b := fun hin b hb q => by
      have := ow5.ge q
      have := tag_in hin hb
      omega
    refine ⟨u7, _, by simp [upd, e0], by simp [upd, es], by simp [upd, el], by simp [upd], hlt, ((st.trans s5 (fun b _ q => gt b (by have := htc b q; omega))).trans s7 (fun b hb q => by have := ow5.ge q; omega)).trans s8 (fun b _ e => by have e : b = bb := e; rw [e]; exact gb), B8, ?_, by omega, (((PL8.next s5 (hin1 NL8) hg oL8 htg).step s7 (InH.mono NL8 (by omega)) (n7 NL8)).step s8 (InH.mono NL8 (by omega)) (fun b q e => by have e : b = bb := e; rw [e] at q; omega)), ((W1.mono s5.ge).mono s7.ge).mono s8.ge, ((W3.mono s5.ge).mono s7.ge).mono s8.ge, ((W5.mono s5.ge).mono s7.ge).mono s8.ge, ((W7.mono s5.ge).mono s7.ge).mono s8.ge⟩
    rw [mks_take hg]
    exact o7.step s8 (fun b q e => by have := o7.ge q; have e : b = bb := e; omega)
  obtain rfl : i = L8.length := by omega
  have htk : (mks (s := 2) 1 false 1 L8).take L8.length = mks 1 false 1 L8 := List.take_of_length_le (by rw [mks_len]; exact Nat.le_refl _)
  have W9 := ow.isSl
  rw [htk] at B W9
  obtain ⟨w9, hw9⟩ : ∃ x, x = Value.slice wa (mks (s := 2) 1 false 1 L8).length wc := ⟨_, rfl⟩
  rw [← hw9] at B W9
  clear hI ow
  simp (disch := first | omega | (simp only [e_ssz, e_psz, e_hszs, List.length_cons, List.length_nil]; try omega; done)) only [↓reduceIte, go_sem, owGrow_L5, el, ei]
  clear es el ei hi hlt hzL hw9
  exact hK _ _ _ _ _ _ _ st ⟨B, ML0.mono st.ge, W1, ML2.mono st.ge, W3, ML4.mono st.ge, W5, ML6.mono st.ge, W7, ML8.mono st.ge, W9⟩
end Go.Proofs.YtlenjlidahnklaaDoor
