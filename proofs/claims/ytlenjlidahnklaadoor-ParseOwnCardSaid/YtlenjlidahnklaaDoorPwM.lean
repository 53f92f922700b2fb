/- ParseOwn: write. -/
import Derived.Test.YtlenjlidahnklaaDoorPwK
namespace Go.Ev
open Go Rep Edict
theorem hvs_out {h : H} {b o o' n : Nat} {l : List Value} (hl : o + l.length ≤ hsz h b) (hd : o' + n ≤ o ∨ o + l.length ≤ o') : hvs (hsets h b o l) b o' n = hvs h b o' n := by
  unfold hvs
  apply List.map_congr_left
  intro j hj
  have := List.mem_range.1 hj
  rw [hsets_hv _ _ _ _ _ hl, if_neg (by omega)]
theorem hvs_full {h : H} {b o : Nat} {l : List Value} (hl : o + l.length ≤ hsz h b) : hvs (hsets h b o l) b o l.length = l := by
  refine hvs_rows (fun j hj => ?_) rfl
  rw [hsets_hv _ _ _ _ _ hl, if_pos (by omega), Nat.add_sub_cancel_left]
theorem mk_one {s p o b : Nat} {m : Int} {h : H} (hp : p < s + 1) (hl : o + (s + 1) ≤ hsz h b) (hk : (hvs h b o (s + 1)).all okCell = true) : mkRep s p false m (hvs (hsets h b (o + p) [.int .i64 m]) b o (s + 1)) := by
  have hc : ∀ j, j < s + 1 → Go.Ev.hv (hsets h b (o + p) [.int .i64 m]) b (o + j) = if j = p then .int .i64 m else Go.Ev.hv h b (o + j) := fun j hj => by
    rw [hsets_hv _ _ _ _ _ (by simp only [List.length_cons, List.length_nil]; omega)]
    by_cases e : j = p
    · subst e
      rw [if_pos ⟨Nat.le_refl _, by simp⟩, if_pos rfl, Nat.sub_self]; rfl
    · rw [if_neg (by simp only [List.length_cons, List.length_nil]; omega), if_neg e]
  refine ⟨by simp [hvs], ?_, ?_, fun q => by cases q⟩
  · rw [List.all_eq_true] at hk ⊢
    intro x hx
    unfold hvs at hx hk
    obtain ⟨j, hj, rfl⟩ := List.mem_map.1 hx
    have hj' := List.mem_range.1 hj
    rw [hc j hj']
    split
    · rfl
    · exact hk _ (List.mem_map.2 ⟨j, hj, rfl⟩)
  · unfold hvs
    rw [List.getElem?_map, List.getElem?_range hp, Option.map_some, hc p hp, if_pos rfl]
/-- The first j elements are marked. -/
def Prt (s p : Nat) (k9 : Bool) (i : Nat) (h : H) (b n j : Nat) : Prop := (∀ q, q < j → mkRep s p k9 (markF i q) (hvs h b (q * (s + 1)) (s + 1))) ∧ ∀ q, j ≤ q → q < n → (hvs h b (q * (s + 1)) (s + 1)).all okCell = true
theorem Prt.put {s p i b n j : Nat} {k9 : Bool} {h h' : H} (P : Prt s p k9 i h b n j) (ho : ∀ q, q ≠ j → hvs h' b (q * (s + 1)) (s + 1) = hvs h b (q * (s + 1)) (s + 1)) (hm : mkRep s p k9 (markF i j) (hvs h' b (j * (s + 1)) (s + 1))) : Prt s p k9 i h' b n (j + 1) := by
  refine ⟨fun q hq => ?_, fun q hq hn => ?_⟩
  · by_cases e : q = j
    · subst e; exact hm
    · rw [ho q e]; exact P.1 q (by omega)
  · rw [ho q (by omega)]; exact P.2 q (by omega) hn
theorem row_out {s j q : Nat} (h : q ≠ j) : q * (s + 1) + (s + 1) ≤ j * (s + 1) ∨ j * (s + 1) + (s + 1) ≤ q * (s + 1) := by
  rcases Nat.lt_or_gt_of_ne h with e | e
  · exact .inl (row_lt e)
  · exact .inr (row_lt e)
theorem Prt.full {s p i b n j : Nat} {k9 : Bool} {h : H} {l : List Value} (P : Prt s p k9 i h b n j) (hz : j * (s + 1) + (s + 1) ≤ hsz h b) (hm : mkRep s p k9 (markF i j) l) : Prt s p k9 i (hsets h b (j * (s + 1)) l) b n (j + 1) := by
  have hl := hm.1
  refine P.put (fun q hq => hvs_out (by omega) (by rw [hl]; exact row_out hq)) ?_
  have := hvs_full (h := h) (b := b) (o := j * (s + 1)) (l := l) (by omega)
  rw [hl] at this
  rw [this]; exact hm
theorem Prt.one {s p i b n j : Nat} {h : H} (P : Prt s p false i h b n j) (hj : j < n) (hp : p < s + 1) (hz : j * (s + 1) + (s + 1) ≤ hsz h b) : Prt s p false i (hsets h b (j * (s + 1) + p) [.int .i64 (markF i j)]) b n (j + 1) := by
  refine P.put (fun q hq => hvs_out (by simp only [List.length_cons, List.length_nil]; omega) ?_) (mk_one hp hz (P.2 j (Nat.le_refl _) hj))
  have := row_out (s := s) hq
  simp only [List.length_cons, List.length_nil]
  omega
theorem WF.step1 {s p m : Nat} {k9 : Bool} {h h' : H} {L : List (RmE s)} {g : RmE s} (w : WF s p k9 h L m) (hin : InH h L) (hg : L[m]? = some g) (h1 : ∀ b, (rtags L).count b ≤ 1) (hs : ∀ c, c < h.size → g.t ≠ some c → h'[c]? = h[c]?) (hm : MarkedE s p k9 h' m g) : WF s p k9 h' L (m + 1) := by
  intro i x hx
  by_cases e : i = m
  · subst e
    rw [hg] at hx; cases hx
    rw [if_pos (by omega)]; exact hm
  · have hw := w i x hx
    have same : ∀ c, x.t = some c → h'[c]? = h[c]? := fun c hc => hs c (hin x (List.mem_of_getElem? hx) c hc) (fun q => e (tag_one (h1 c) hx hg hc q))
    split
    · rename_i q
      rw [if_pos (by omega)] at hw
      intro c hc j hj
      rw [hvs_same (same c hc)]; exact hw c hc j hj
    · rename_i q
      rw [if_neg (by omega)] at hw
      intro c hc j hj
      rw [hvs_same (same c hc)]; exact hw c hc j hj
theorem WF.otherO {s s' p m : Nat} {k9 : Bool} {h h' : H} {L : List (RmE s)} {g : RmE s'} (w : WF s p k9 h L m) (hin : InH h L) (hs : ∀ c, c < h.size → g.t ≠ some c → h'[c]? = h[c]?) (hb : ∀ b, g.t = some b → (rtags L).count b = 0) : WF s p k9 h' L m := by
  intro i x hx
  have hw := w i x hx
  have same : ∀ c, x.t = some c → h'[c]? = h[c]? := fun c hc => hs c (hin x (List.mem_of_getElem? hx) c hc) (fun q => by have := hb c q; have := tag_mem hx hc; omega)
  split
  · rename_i q
    rw [if_pos q] at hw
    intro c hc j hj
    rw [hvs_same (same c hc)]; exact hw c hc j hj
  · rename_i q
    rw [if_neg q] at hw
    intro c hc j hj
    rw [hvs_same (same c hc)]; exact hw c hc j hj
/-! ### The lists are settled anew -/
def setl {s : Nat} (L : List (RmE s)) (j : Nat) : Option Nat := (L.find? fun g => g.t == some j).map fun g => g.n * (s + 1)
theorem setl_some {s q b : Nat} {L : List (RmE s)} {g : RmE s} (h1 : (rtags L).count b ≤ 1) (hg : L[q]? = some g) (ht : g.t = some b) : setl L b = some (g.n * (s + 1)) := by
  unfold setl
  cases hf : L.find? (fun g => g.t == some b) with
  | none =>
    have := List.find?_eq_none.1 hf g (List.mem_of_getElem? hg)
    rw [ht] at this; simp at this
  | some x =>
    have hx := List.find?_some hf
    obtain ⟨i, hi⟩ := List.mem_iff_getElem?.1 (List.mem_of_find?_eq_some hf)
    have := tag_one h1 hg hi ht (by simpa using hx)
    subst this
    rw [hg] at hi; cases hi; rfl
theorem setl_none {s b : Nat} {L : List (RmE s)} (h0 : (rtags L).count b = 0) : setl L b = none := by
  unfold setl
  cases hf : L.find? (fun g => g.t == some b) with
  | none => rfl
  | some x =>
    have hx := List.find?_some hf
    obtain ⟨i, hi⟩ := List.mem_iff_getElem?.1 (List.mem_of_find?_eq_some hf)
    have := tag_mem hi (show x.t = some b by simpa using hx)
    omega
theorem isSl_rm {s : Nat} {u u' : U} {h : H} {v : Value} {L : List (RmE s)} (i : IsSl u h v L) (hu : ∀ b, 0 < u b → u' b = u b) : IsSl u' h v L := by
  obtain ⟨a, n, c, e, h1, h2, h3, h4, h5⟩ := i
  refine ⟨a, n, c, e, h1, h2, h3, h4, fun hne => ?_⟩
  obtain ⟨b, o, k1, k2, k3, k4, k5⟩ := h5 hne
  have hl := List.length_pos_iff.2 hne
  have hz : sz (RmE s) = 1 := rfl
  exact ⟨b, o, k1, k2, by rw [hu b (by rw [hz] at k3; omega)]; exact k3, k4, k5⟩
theorem isSl_mks {s p : Nat} {k9 : Bool} {u u' : U} {h : H} {v : Value} {L : List (RmE s)} (i : IsSl u h v L) (hu : ∀ b, 0 < u b → u' b = u b) (w : WF s p k9 h L L.length) (hs : ∀ (q : Nat) (g : RmE s) (b : Nat), L[q]? = some g → g.t = some b → u' b = g.n * (s + 1)) : IsSl u' h v (mks p k9 0 L) := by
  obtain ⟨a, n, c, e, h1, h2, h3, h4, h5⟩ := i
  refine ⟨a, n, c, e, by rw [mks_len]; exact h1, h2, h3, h4, fun hne => ?_⟩
  have hne' : L ≠ [] := fun q => hne (by rw [q]; rfl)
  obtain ⟨b, o, k1, k2, k3, k4, k5⟩ := h5 hne'
  have hl := List.length_pos_iff.2 hne'
  have hz : sz (RmE s) = 1 := rfl
  have hz' : sz (List (MkE s p k9)) = 1 := rfl
  rw [hz] at k3 k4 k5
  refine ⟨b, o, k1, k2, by rw [mks_len, hz', hu b (by omega)]; exact k3, by rw [mks_len, hz']; exact k4, fun j x hx => ?_⟩
  rw [hz']
  cases hg : L[j]? with
  | none =>
    have : (mks p k9 0 L).length ≤ j := by rw [mks_len]; exact List.getElem?_eq_none_iff.1 hg
    rw [List.getElem?_eq_none this] at hx; cases hx
  | some g =>
    rw [mks_at hg] at hx
    cases hx
    obtain ⟨xv, ex, rm⟩ := k5 j g hg
    rw [ex]
    refine ⟨xv, rfl, ?_⟩
    have hj : j < L.length := (List.getElem?_eq_some_iff.1 hg).1
    have hw := w j g hg
    rw [if_pos hj] at hw
    rw [Nat.add_zero]
    unfold Room at rm
    cases ht : g.t with
    | none =>
      rw [ht] at rm
      obtain ⟨rfl, hn⟩ := rm
      rw [hn]; exact .nil _ _
    | some d =>
      rw [ht] at rm
      obtain ⟨cc, rfl, r2, r3, r4, r5, r6⟩ := rm
      have hmul : g.n * (s + 1) ≤ cc * (s + 1) := Nat.mul_le_mul_right _ r2
      refine ⟨_, _, _, rfl, (marks_len _ _).symm, r2, r3, (fun q => by cases q), fun _ => ⟨d, 0, rfl, r4, ?_, ?_, fun q y hy => ?_⟩⟩
      · rw [marks_len, hs j g d hg ht, Nat.zero_add]; exact Nat.le_refl _
      · rw [marks_len, r5, Nat.zero_add]; exact hmul
      · have hq : q < g.n := by have := (List.getElem?_eq_some_iff.1 hy).1; rwa [marks_len] at this
        rw [marks_at hq] at hy
        cases hy
        rw [Nat.zero_add]
        exact hw d ht q hq
end Go.Ev
namespace Go.Proofs.YtlenjlidahnklaaDoor
open Go Go.Ev Edict HasTags
def C_write (vs : List Value) (h : H) (K : Value → H → Prop) : Prop := ∃ (u : U) (bb : Nat) (v0 v2 v4 v6 v8 : Value) (L0 : List (RmE 3)) (L2 : List (RmE 13)) (L4 : List (RmE 3)) (L6 : List (RmE 2)) (L8 : List (RmE 2)), vs = [.pointer (some ⟨bb, 0, none⟩)] ∧ Blk u h bb (bkE v0 v2 v4 v6 v8) ∧
  (IsSl u h v0 L0 ∧ WF 3 3 true h L0 0 ∧ InH h L0 ∧ (∀ g ∈ L0, g.n ≤ 5000) ∧ L0.length ≤ 1000000000) ∧
  (IsSl u h v2 L2 ∧ WF 13 13 false h L2 0 ∧ InH h L2 ∧ (∀ g ∈ L2, g.n ≤ 5000) ∧ L2.length ≤ 1000000000) ∧
  (IsSl u h v4 L4 ∧ WF 3 2 false h L4 0 ∧ InH h L4 ∧ (∀ g ∈ L4, g.n ≤ 5000) ∧ L4.length ≤ 1000000000) ∧
  (IsSl u h v6 L6 ∧ WF 2 2 false h L6 0 ∧ InH h L6 ∧ (∀ g ∈ L6, g.n ≤ 5000) ∧ L6.length ≤ 1000000000) ∧
  (IsSl u h v8 L8 ∧ WF 2 1 false h L8 0 ∧ InH h L8 ∧ (∀ g ∈ L8, g.n ≤ 5000) ∧ L8.length ≤ 1000000000) ∧
  (∀ n, tot L0 L2 L4 L6 L8 n ≤ 1) ∧ tot L0 L2 L4 L6 L8 bb = 0 ∧ (∀ n, 0 < tot L0 L2 L4 L6 L8 n → u n = 0) ∧
  ∀ u' h' w1 w3 w5 w7 w9, h.size ≤ h'.size → (∀ j, j < h.size → hsz h' j = hsz h j ∧ hfr h' j = hfr h j) → (∀ j, j < h.size → j ≠ bb → tot L0 L2 L4 L6 L8 j = 0 → h'[j]? = h[j]?) → BkFin u' h' bb L0 L2 L4 L6 L8 v0 w1 v2 w3 v4 w5 v6 w7 v8 w9 → K (.tuple #[]) h'
def G_write : Ctr := fun f vs h K _ => (f = 23 ∧ C_mark vs h K) ∨ (f = 24 ∧ C_grow vs h K)
theorem G_write_ok : GOk Tryd.prog G_write := by
  rintro f vs h K KP (⟨rfl, hC⟩ | ⟨rfl, hC⟩)
  · exact owMark_ok hC
  · exact owGrow_ok hC
theorem owWrite_ok {vs : List Value} {h : H} {K : Value → H → Prop} {KP : List PanicEntry → H → Prop} (hC : C_write vs h K) : HCX Tryd.prog 8 vs h K KP := by
  obtain ⟨u, bb, v0, v2, v4, v6, v8, L0, L2, L4, L6, L8, rfl, B, ⟨RL0, WL0, NL0, leL0, lenL0⟩, ⟨RL2, WL2, NL2, leL2, lenL2⟩, ⟨RL4, WL4, NL4, leL4, lenL4⟩, ⟨RL6, WL6, NL6, leL6, lenL6⟩, ⟨RL8, WL8, NL8, leL8, lenL8⟩, hc1, hbb0, hu0, hK⟩ := hC
  have hm := mlenW
  unfold tot at hc1 hbb0
  obtain ⟨av0, cv0, rfl, -, -⟩ := RL0.sl
  obtain ⟨av2, cv2, rfl, -, -⟩ := RL2.sl
  obtain ⟨av4, cv4, rfl, -, -⟩ := RL4.sl
  obtain ⟨av6, cv6, rfl, -, -⟩ := RL6.sl
  obtain ⟨av8, cv8, rfl, -, -⟩ := RL8.sl
  have oL0 : ∀ b, (rtags L0).count b ≤ 1 := fun b => by have := hc1 b; omega
  have oL2 : ∀ b, (rtags L2).count b ≤ 1 := fun b => by have := hc1 b; omega
  have oL4 : ∀ b, (rtags L4).count b ≤ 1 := fun b => by have := hc1 b; omega
  have oL6 : ∀ b, (rtags L6).count b ≤ 1 := fun b => by have := hc1 b; omega
  have oL8 : ∀ b, (rtags L8).count b ≤ 1 := fun b => by have := hc1 b; omega
  obtain ⟨GT, hGT⟩ : ∃ GT : Nat → Prop, GT = fun j => 0 < tot L0 L2 L4 L6 L8 j := ⟨_, rfl⟩
  have gt : ∀ b, 0 < tot L0 L2 L4 L6 L8 b → GT b := fun b q => by rw [hGT]; exact q
  have gt' : ∀ b, GT b → 0 < tot L0 L2 L4 L6 L8 b := fun b q => by rw [hGT] at q; exact q
  clear hGT
  have gbb : ¬ GT bb := fun q => by have := gt' _ q; unfold tot at this; omega
  refine owWrite_H G_write G_write_ok _ ?_
  have B0 := B
  unfold bkE at B
  have B1 := B.1
  simp (disch := first | omega | (simp only [e_ssz, e_psz, e_hszs, List.length_cons, List.length_nil]; try omega; done)) only [↓reduceIte, go_sem, owWrite_S, owWrite_E, B.at, B.2.1]
  have st : Step GT u h u h := .refl _ _ _
  -- L0
  obtain ⟨I, hI⟩ : ∃ I : Nat → Env → H → Prop, I = fun i σ h' => σ 0 = .pointer (some ⟨bb, 0, none⟩) ∧ σ 20 = .slice av0 L0.length cv0 ∧ σ 21 = .int .i64 (L0.length : Nat) ∧ σ 22 = .int .i64 (i : Nat) ∧ i ≤ L0.length ∧ Step GT u h u h' ∧ WF 3 3 true h' L0 i ∧ WF 13 13 false h' L2 0 ∧ WF 3 2 false h' L4 0 ∧ WF 2 2 false h' L6 0 ∧ WF 2 1 false h' L8 0 := ⟨_, rfl⟩
  refine wpS_loop I (fun j => L0.length - j) 0 (by rw [hI]; exact ⟨by simp [upd], by simp [upd], by simp [upd], by simp [upd], Nat.zero_le _, st, WL0, WL2, WL4, WL6, WL8⟩) ?_
  clear st WL0 WL2 WL4 WL6 WL8
  intro i σ h1 hy
  rw [hI] at hy
  obtain ⟨e0, es, el, ei, hi, st, WL0, WL2, WL4, WL6, WL8⟩ := hy
  have Bn := B.step st gbb
  have Bn1 := Bn.1
  have hz := st.ge.sz
  by_cases hlt : i < L0.length
  · obtain ⟨g, hg⟩ : ∃ g, L0[i]? = some g := ⟨L0[i], by simp [hlt]⟩
    have hgn := leL0 g (List.mem_of_getElem? hg)
    obtain ⟨pb, po, ha, hpb, hpu, hpz, hpr⟩ := (RL0.mono st.ge).row i g hg
    subst ha
    rw [rep_rme] at hpr
    obtain ⟨xv, hpr, rm⟩ := hpr
    simp only [sz_rme, hvs_1, List.cons.injEq, and_true] at hpr hpu hpz
    obtain ⟨xa, xc, hxv⟩ : ∃ xa xc, xv = .slice xa g.n xc := by
      unfold Room at rm
      split at rm
      · exact ⟨none, 0, by rw [rm.1, rm.2]⟩
      · obtain ⟨c, e, -⟩ := rm; exact ⟨_, c, e⟩
    subst hxv
    have hin1 : ∀ {s : Nat} {L : List (RmE s)}, InH h L → InH h1 L := fun q => InH.mono q hz
    have htc : ∀ b, g.t = some b → 0 < (rtags L0).count b := fun b q => tag_mem hg q
    have hm0 := WL0 i g hg
    rw [if_neg (Nat.lt_irrefl _)] at hm0
    simp (disch := first | omega | (simp only [e_ssz, e_psz, e_hszs, List.length_cons, List.length_nil]; try omega; done)) only [↓reduceIte, go_sem, owWrite_L1, es, el, ei, hlt, hpr]
    obtain ⟨J, hJ⟩ : ∃ J : Nat → Env → H → Prop, J = fun j σ' h' => σ' 0 = σ 0 ∧ σ' 20 = σ 20 ∧ σ' 21 = σ 21 ∧ σ' 22 = σ 22 ∧ σ' 2 = .int .i64 (i : Nat) ∧ σ' 3 = .slice xa g.n xc ∧ σ' 28 = .int .i64 (g.n : Nat) ∧ σ' 29 = .int .i64 (j : Nat) ∧ j ≤ g.n ∧ Step (fun b => g.t = some b) u h1 u h' ∧ ∀ b, g.t = some b → Prt 3 3 true i h' b g.n j := ⟨_, rfl⟩
    refine wpS_loop J (fun j => g.n - j) 0 (by rw [hJ]; exact ⟨by simp [upd], by simp [upd], by simp [upd], by simp [upd], by simp [upd], by simp [upd], by simp [upd], by simp [upd], Nat.zero_le _, .refl _ _ _, fun b hb => ⟨fun q hq => absurd hq (Nat.not_lt_zero _), fun q _ hq => hm0 b hb q hq⟩⟩) ?_
    intro j σ' hx hy
    rw [hJ] at hy
    obtain ⟨f0, fs, fl, fi, fit, flt, fl2, fi2, hj, sx, PX⟩ := hy
    rw [e0] at f0
    rw [es] at fs
    rw [el] at fl
    rw [ei] at fi
    have hzx := sx.ge.sz
    by_cases hjn : j < g.n
    · obtain ⟨b, hb⟩ : ∃ b, g.t = some b := by
        unfold Room at rm
        split at rm
        · have := rm.2; omega
        · exact ⟨_, by assumption⟩
      have rm2 := rm
      rw [hb] at rm2
      obtain ⟨c, ec, r2, r3, r4, r5, r6⟩ := rm2
      cases ec
      have hzb : hsz hx b = xc * 4 := by rw [(sx.ge.hs b r4).1]; exact r5
      have hfb : hfr hx b = (0, 0) := by rw [(sx.ge.hs b r4).2]; exact r6
      have ub0 : u b = 0 := hu0 b (by unfold tot; have := htc b hb; omega)
      have hjz : j * (3 + 1) + (3 + 1) ≤ hsz hx b := by rw [hzb]; omega
      simp (disch := first | omega | (simp only [e_ssz, e_psz, e_hszs, List.length_cons, List.length_nil]; try omega; done)) only [↓reduceIte, go_sem, owWrite_L2, fit, fl2, fi2, hjn]
      refine effS_call (.inl ⟨rfl, i, j, rfl, ⟨by simp (disch := first | omega | (simp only [e_ssz, e_psz, e_hszs, List.length_cons, List.length_nil]; try omega; done)) only [go_sem], ?_⟩⟩)
      simp (disch := first | omega | (simp only [e_ssz, e_psz, e_hszs, List.length_cons, List.length_nil]; try omega; done)) only [↓reduceIte, go_sem, flt, fi2, hjn, hzb, hfb]
      refine ⟨by omega, by omega, ⟨j + 1, ?_, by omega⟩⟩
      rw [hJ]
      have PY := (PX b hb).full (l := [.int .i64 9, .int .i64 0, str [], .int .i64 (markF i j)]) hjz ⟨rfl, rfl, rfl, fun _ => rfl⟩
      have sy := Step.sets (S := fun x => g.t = some x) u hx (b := b) (o := j * (3 + 1)) (l := [.int .i64 9, .int .i64 0, str [], .int .i64 (markF i j)]) hb (by rw [ub0]; exact Nat.zero_le _) (by simp only [List.length_cons, List.length_nil]; omega)
      exact ⟨by simp [upd, f0, e0], by simp [upd, fs, es], by simp [upd, fl, el], by simp [upd, fi, ei], by simp [upd, fit], by simp [upd, flt], by simp [upd, fl2], by simp [upd], hjn, sx.trans sy (fun _ _ q => q), fun b' hb' => by rw [hb] at hb'; cases hb'; exact PY⟩
    · obtain rfl : j = g.n := by omega
      simp (disch := first | omega | (simp only [e_ssz, e_psz, e_hszs, List.length_cons, List.length_nil]; try omega; done)) only [↓reduceIte, go_sem, owWrite_L2, fi, fl2, fi2]
      refine ⟨i + 1, ?_, by omega⟩
      rw [hI]
      have hsame : ∀ c, c < h1.size → g.t ≠ some c → hx[c]? = h1[c]? := fun c hc hne => (sx.same c hc hne).1
      exact ⟨by simp [upd, f0], by simp [upd, fs], by simp [upd, fl], by simp [upd], hlt, st.trans sx (fun b _ q => gt b (by unfold tot; have := htc b q; omega)), WF.step1 WL0 (hin1 NL0) hg oL0 hsame (fun b hb q hq => (PX b hb).1 q hq), WF.otherO WL2 (hin1 NL2) hsame (fun b q => by have := htc b q; have := hc1 b; omega), WF.otherO WL4 (hin1 NL4) hsame (fun b q => by have := htc b q; have := hc1 b; omega), WF.otherO WL6 (hin1 NL6) hsame (fun b q => by have := htc b q; have := hc1 b; omega), WF.otherO WL8 (hin1 NL8) hsame (fun b q => by have := htc b q; have := hc1 b; omega)⟩
  obtain rfl : i = L0.length := by omega
  clear hI
  simp (disch := first | omega | (simp only [e_ssz, e_psz, e_hszs, List.length_cons, List.length_nil]; try omega; done)) only [↓reduceIte, go_sem, owWrite_L1, e0, el, ei, Bn.at, Bn.2.1]
  clear es el ei hi hlt Bn Bn1 hz
  -- L2
  obtain ⟨I, hI⟩ : ∃ I : Nat → Env → H → Prop, I = fun i σ h' => σ 0 = .pointer (some ⟨bb, 0, none⟩) ∧ σ 44 = .slice av2 L2.length cv2 ∧ σ 45 = .int .i64 (L2.length : Nat) ∧ σ 46 = .int .i64 (i : Nat) ∧ i ≤ L2.length ∧ Step GT u h u h' ∧ WF 13 13 false h' L2 i ∧ WF 3 3 true h' L0 L0.length ∧ WF 3 2 false h' L4 0 ∧ WF 2 2 false h' L6 0 ∧ WF 2 1 false h' L8 0 := ⟨_, rfl⟩
  refine wpS_loop I (fun j => L2.length - j) 0 (by rw [hI]; exact ⟨by simp [upd, e0], by simp [upd], by simp [upd], by simp [upd], Nat.zero_le _, st, WL2, WL0, WL4, WL6, WL8⟩) ?_
  clear st WL2 WL0 WL4 WL6 WL8 e0
  intro i σ h2 hy
  rw [hI] at hy
  obtain ⟨e0, es, el, ei, hi, st, WL2, WL0, WL4, WL6, WL8⟩ := hy
  have Bn := B.step st gbb
  have Bn1 := Bn.1
  have hz := st.ge.sz
  by_cases hlt : i < L2.length
  · obtain ⟨g, hg⟩ : ∃ g, L2[i]? = some g := ⟨L2[i], by simp [hlt]⟩
    have hgn := leL2 g (List.mem_of_getElem? hg)
    obtain ⟨pb, po, ha, hpb, hpu, hpz, hpr⟩ := (RL2.mono st.ge).row i g hg
    subst ha
    rw [rep_rme] at hpr
    obtain ⟨xv, hpr, rm⟩ := hpr
    simp only [sz_rme, hvs_1, List.cons.injEq, and_true] at hpr hpu hpz
    obtain ⟨xa, xc, hxv⟩ : ∃ xa xc, xv = .slice xa g.n xc := by
      unfold Room at rm
      split at rm
      · exact ⟨none, 0, by rw [rm.1, rm.2]⟩
      · obtain ⟨c, e, -⟩ := rm; exact ⟨_, c, e⟩
    subst hxv
    have hin1 : ∀ {s : Nat} {L : List (RmE s)}, InH h L → InH h2 L := fun q => InH.mono q hz
    have htc : ∀ b, g.t = some b → 0 < (rtags L2).count b := fun b q => tag_mem hg q
    have hm0 := WL2 i g hg
    rw [if_neg (Nat.lt_irrefl _)] at hm0
    simp (disch := first | omega | (simp only [e_ssz, e_psz, e_hszs, List.length_cons, List.length_nil]; try omega; done)) only [↓reduceIte, go_sem, owWrite_L3, es, el, ei, hlt, hpr]
    obtain ⟨J, hJ⟩ : ∃ J : Nat → Env → H → Prop, J = fun j σ' h' => σ' 0 = σ 0 ∧ σ' 44 = σ 44 ∧ σ' 45 = σ 45 ∧ σ' 46 = σ 46 ∧ σ' 5 = .int .i64 (i : Nat) ∧ σ' 6 = .slice xa g.n xc ∧ σ' 52 = .int .i64 (g.n : Nat) ∧ σ' 53 = .int .i64 (j : Nat) ∧ j ≤ g.n ∧ Step (fun b => g.t = some b) u h2 u h' ∧ ∀ b, g.t = some b → Prt 13 13 false i h' b g.n j := ⟨_, rfl⟩
    refine wpS_loop J (fun j => g.n - j) 0 (by rw [hJ]; exact ⟨by simp [upd], by simp [upd], by simp [upd], by simp [upd], by simp [upd], by simp [upd], by simp [upd], by simp [upd], Nat.zero_le _, .refl _ _ _, fun b hb => ⟨fun q hq => absurd hq (Nat.not_lt_zero _), fun q _ hq => hm0 b hb q hq⟩⟩) ?_
    intro j σ' hx hy
    rw [hJ] at hy
    obtain ⟨f0, fs, fl, fi, fit, flt, fl2, fi2, hj, sx, PX⟩ := hy
    rw [e0] at f0
    rw [es] at fs
    rw [el] at fl
    rw [ei] at fi
    have hzx := sx.ge.sz
    by_cases hjn : j < g.n
    · obtain ⟨b, hb⟩ : ∃ b, g.t = some b := by
        unfold Room at rm
        split at rm
        · have := rm.2; omega
        · exact ⟨_, by assumption⟩
      have rm2 := rm
      rw [hb] at rm2
      obtain ⟨c, ec, r2, r3, r4, r5, r6⟩ := rm2
      cases ec
      have hzb : hsz hx b = xc * 14 := by rw [(sx.ge.hs b r4).1]; exact r5
      have hfb : hfr hx b = (0, 0) := by rw [(sx.ge.hs b r4).2]; exact r6
      have ub0 : u b = 0 := hu0 b (by unfold tot; have := htc b hb; omega)
      have hjz : j * (13 + 1) + (13 + 1) ≤ hsz hx b := by rw [hzb]; omega
      simp (disch := first | omega | (simp only [e_ssz, e_psz, e_hszs, List.length_cons, List.length_nil]; try omega; done)) only [↓reduceIte, go_sem, owWrite_L4, fit, fl2, fi2, hjn]
      refine effS_call (.inl ⟨rfl, i, j, rfl, ⟨by simp (disch := first | omega | (simp only [e_ssz, e_psz, e_hszs, List.length_cons, List.length_nil]; try omega; done)) only [go_sem], ?_⟩⟩)
      simp (disch := first | omega | (simp only [e_ssz, e_psz, e_hszs, List.length_cons, List.length_nil]; try omega; done)) only [↓reduceIte, go_sem, flt, fi2, hjn, hzb, hfb]
      refine ⟨by omega, ⟨j + 1, ?_, by omega⟩⟩
      rw [hJ]
      have PY := (PX b hb).one hjn (by decide) hjz
      have sy := Step.sets (S := fun x => g.t = some x) u hx (b := b) (o := j * (13 + 1) + 13) (l := [.int .i64 (markF i j)]) hb (by rw [ub0]; exact Nat.zero_le _) (by simp only [List.length_cons, List.length_nil]; omega)
      exact ⟨by simp [upd, f0, e0], by simp [upd, fs, es], by simp [upd, fl, el], by simp [upd, fi, ei], by simp [upd, fit], by simp [upd, flt], by simp [upd, fl2], by simp [upd], hjn, sx.trans sy (fun _ _ q => q), fun b' hb' => by rw [hb] at hb'; cases hb'; exact PY⟩
    · obtain rfl : j = g.n := by omega
      simp (disch := first | omega | (simp only [e_ssz, e_psz, e_hszs, List.length_cons, List.length_nil]; try omega; done)) only [↓reduceIte, go_sem, owWrite_L4, fi, fl2, fi2]
      refine ⟨i + 1, ?_, by omega⟩
      rw [hI]
      have hsame : ∀ c, c < h2.size → g.t ≠ some c → hx[c]? = h2[c]? := fun c hc hne => (sx.same c hc hne).1
      exact ⟨by simp [upd, f0], by simp [upd, fs], by simp [upd, fl], by simp [upd], hlt, st.trans sx (fun b _ q => gt b (by unfold tot; have := htc b q; omega)), WF.step1 WL2 (hin1 NL2) hg oL2 hsame (fun b hb q hq => (PX b hb).1 q hq), WF.otherO WL0 (hin1 NL0) hsame (fun b q => by have := htc b q; have := hc1 b; omega), WF.otherO WL4 (hin1 NL4) hsame (fun b q => by have := htc b q; have := hc1 b; omega), WF.otherO WL6 (hin1 NL6) hsame (fun b q => by have := htc b q; have := hc1 b; omega), WF.otherO WL8 (hin1 NL8) hsame (fun b q => by have := htc b q; have := hc1 b; omega)⟩
  obtain rfl : i = L2.length := by omega
  clear hI
  simp (disch := first | omega | (simp only [e_ssz, e_psz, e_hszs, List.length_cons, List.length_nil]; try omega; done)) only [↓reduceIte, go_sem, owWrite_L3, e0, el, ei, Bn.at, Bn.2.1]
  clear es el ei hi hlt Bn Bn1 hz
  -- L4
  obtain ⟨I, hI⟩ : ∃ I : Nat → Env → H → Prop, I = fun i σ h' => σ 0 = .pointer (some ⟨bb, 0, none⟩) ∧ σ 68 = .slice av4 L4.length cv4 ∧ σ 69 = .int .i64 (L4.length : Nat) ∧ σ 70 = .int .i64 (i : Nat) ∧ i ≤ L4.length ∧ Step GT u h u h' ∧ WF 3 2 false h' L4 i ∧ WF 3 3 true h' L0 L0.length ∧ WF 13 13 false h' L2 L2.length ∧ WF 2 2 false h' L6 0 ∧ WF 2 1 false h' L8 0 := ⟨_, rfl⟩
  refine wpS_loop I (fun j => L4.length - j) 0 (by rw [hI]; exact ⟨by simp [upd, e0], by simp [upd], by simp [upd], by simp [upd], Nat.zero_le _, st, WL4, WL0, WL2, WL6, WL8⟩) ?_
  clear st WL4 WL0 WL2 WL6 WL8 e0
  intro i σ h3 hy
  rw [hI] at hy
  obtain ⟨e0, es, el, ei, hi, st, WL4, WL0, WL2, WL6, WL8⟩ := hy
  have Bn := B.step st gbb
  have Bn1 := Bn.1
  have hz := st.ge.sz
  by_cases hlt : i < L4.length
  · obtain ⟨g, hg⟩ : ∃ g, L4[i]? = some g := ⟨L4[i], by simp [hlt]⟩
    have hgn := leL4 g (List.mem_of_getElem? hg)
    obtain ⟨pb, po, ha, hpb, hpu, hpz, hpr⟩ := (RL4.mono st.ge).row i g hg
    subst ha
    rw [rep_rme] at hpr
    obtain ⟨xv, hpr, rm⟩ := hpr
    simp only [sz_rme, hvs_1, List.cons.injEq, and_true] at hpr hpu hpz
    obtain ⟨xa, xc, hxv⟩ : ∃ xa xc, xv = .slice xa g.n xc := by
      unfold Room at rm
      split at rm
      · exact ⟨none, 0, by rw [rm.1, rm.2]⟩
      · obtain ⟨c, e, -⟩ := rm; exact ⟨_, c, e⟩
    subst hxv
    have hin1 : ∀ {s : Nat} {L : List (RmE s)}, InH h L → InH h3 L := fun q => InH.mono q hz
    have htc : ∀ b, g.t = some b → 0 < (rtags L4).count b := fun b q => tag_mem hg q
    have hm0 := WL4 i g hg
    rw [if_neg (Nat.lt_irrefl _)] at hm0
    simp (disch := first | omega | (simp only [e_ssz, e_psz, e_hszs, List.length_cons, List.length_nil]; try omega; done)) only [↓reduceIte, go_sem, owWrite_L5, es, el, ei, hlt, hpr]
    obtain ⟨J, hJ⟩ : ∃ J : Nat → Env → H → Prop, J = fun j σ' h' => σ' 0 = σ 0 ∧ σ' 68 = σ 68 ∧ σ' 69 = σ 69 ∧ σ' 70 = σ 70 ∧ σ' 8 = .int .i64 (i : Nat) ∧ σ' 9 = .slice xa g.n xc ∧ σ' 76 = .int .i64 (g.n : Nat) ∧ σ' 77 = .int .i64 (j : Nat) ∧ j ≤ g.n ∧ Step (fun b => g.t = some b) u h3 u h' ∧ ∀ b, g.t = some b → Prt 3 2 false i h' b g.n j := ⟨_, rfl⟩
    refine wpS_loop J (fun j => g.n - j) 0 (by rw [hJ]; exact ⟨by simp [upd], by simp [upd], by simp [upd], by simp [upd], by simp [upd], by simp [upd], by simp [upd], by simp [upd], Nat.zero_le _, .refl _ _ _, fun b hb => ⟨fun q hq => absurd hq (Nat.not_lt_zero _), fun q _ hq => hm0 b hb q hq⟩⟩) ?_
    intro j σ' hx hy
    rw [hJ] at hy
    obtain ⟨f0, fs, fl, fi, fit, flt, fl2, fi2, hj, sx, PX⟩ := hy
    rw [e0] at f0
    rw [es] at fs
    rw [el] at fl
    rw [ei] at fi
    have hzx := sx.ge.sz
    by_cases hjn : j < g.n
    · obtain ⟨b, hb⟩ : ∃ b, g.t = some b := by
        unfold Room at rm
        split at rm
        · have := rm.2; omega
        · exact ⟨_, by assumption⟩
      have rm2 := rm
      rw [hb] at rm2
      obtain ⟨c, ec, r2, r3, r4, r5, r6⟩ := rm2
      cases ec
      have hzb : hsz hx b = xc * 4 := by rw [(sx.ge.hs b r4).1]; exact r5
      have hfb : hfr hx b = (0, 0) := by rw [(sx.ge.hs b r4).2]; exact r6
      have ub0 : u b = 0 := hu0 b (by unfold tot; have := htc b hb; omega)
      have hjz : j * (3 + 1) + (3 + 1) ≤ hsz hx b := by rw [hzb]; omega
      simp (disch := first | omega | (simp only [e_ssz, e_psz, e_hszs, List.length_cons, List.length_nil]; try omega; done)) only [↓reduceIte, go_sem, owWrite_L6, fit, fl2, fi2, hjn]
      refine effS_call (.inl ⟨rfl, i, j, rfl, ⟨by simp (disch := first | omega | (simp only [e_ssz, e_psz, e_hszs, List.length_cons, List.length_nil]; try omega; done)) only [go_sem], ?_⟩⟩)
      simp (disch := first | omega | (simp only [e_ssz, e_psz, e_hszs, List.length_cons, List.length_nil]; try omega; done)) only [↓reduceIte, go_sem, flt, fi2, hjn, hzb, hfb]
      refine ⟨by omega, ⟨j + 1, ?_, by omega⟩⟩
      rw [hJ]
      have PY := (PX b hb).one hjn (by decide) hjz
      have sy := Step.sets (S := fun x => g.t = some x) u hx (b := b) (o := j * (3 + 1) + 2) (l := [.int .i64 (markF i j)]) hb (by rw [ub0]; exact Nat.zero_le _) (by simp only [List.length_cons, List.length_nil]; omega)
      exact ⟨by simp [upd, f0, e0], by simp [upd, fs, es], by simp [upd, fl, el], by simp [upd, fi, ei], by simp [upd, fit], by simp [upd, flt], by simp [upd, fl2], by simp [upd], hjn, sx.trans sy (fun _ _ q => q), fun b' hb' => by rw [hb] at hb'; cases hb'; exact PY⟩
    · obtain rfl : j = g.n := by omega
      simp (disch := first | omega | (simp only [e_ssz, e_psz, e_hszs, List.length_cons, List.length_nil]; try omega; done)) only [↓reduceIte, go_sem, owWrite_L6, fi, fl2, fi2]
      refine ⟨i + 1, ?_, by omega⟩
      rw [hI]
      have hsame : ∀ c, c < h3.size → g.t ≠ some c → hx[c]? = h3[c]? := fun c hc hne => (sx.same c hc hne).1
      exact ⟨by simp [upd, f0], by simp [upd, fs], by simp [upd, fl], by simp [upd], hlt, st.trans sx (fun b _ q => gt b (by unfold tot; have := htc b q; omega)), WF.step1 WL4 (hin1 NL4) hg oL4 hsame (fun b hb q hq => (PX b hb).1 q hq), WF.otherO WL0 (hin1 NL0) hsame (fun b q => by have := htc b q; have := hc1 b; omega), WF.otherO WL2 (hin1 NL2) hsame (fun b q => by have := htc b q; have := hc1 b; omega), WF.otherO WL6 (hin1 NL6) hsame (fun b q => by have := htc b q; have := hc1 b; omega), WF.otherO WL8 (hin1 NL8) hsame (fun b q => by have := htc b q; have := hc1 b; omega)⟩
  obtain rfl : i = L4.length := by omega
  clear hI
  simp (disch := first | omega | (simp only [e_ssz, e_psz, e_hszs, List.length_cons, List.length_nil]; try omega; done)) only [↓reduceIte, go_sem, owWrite_L5, e0, el, ei, Bn.at, Bn.2.1]
  clear es el ei hi hlt Bn Bn1 hz
  -- L6
  obtain ⟨I, hI⟩ : ∃ I : Nat → Env → H → Prop, I = fun i σ h' => σ 0 = .pointer (some ⟨bb, 0, none⟩) ∧ σ 93 = .slice av6 L6.length cv6 ∧ σ 94 = .int .i64 (L6.length : Nat) ∧ σ 95 = .int .i64 (i : Nat) ∧ i ≤ L6.length ∧ Step GT u h u h' ∧ WF 2 2 false h' L6 i ∧ WF 3 3 true h' L0 L0.length ∧ WF 13 13 false h' L2 L2.length ∧ WF 3 2 false h' L4 L4.length ∧ WF 2 1 false h' L8 0 := ⟨_, rfl⟩
  refine wpS_loop I (fun j => L6.length - j) 0 (by rw [hI]; exact ⟨by simp [upd, e0], by simp [upd], by simp [upd], by simp [upd], Nat.zero_le _, st, WL6, WL0, WL2, WL4, WL8⟩) ?_
  clear st WL6 WL0 WL2 WL4 WL8 e0
  intro i σ h4 hy
  rw [hI] at hy
  obtain ⟨e0, es, el, ei, hi, st, WL6, WL0, WL2, WL4, WL8⟩ := hy
  have Bn := B.step st gbb
  have Bn1 := Bn.1
  have hz := st.ge.sz
  by_cases hlt : i < L6.length
  · obtain ⟨g, hg⟩ : ∃ g, L6[i]? = some g := ⟨L6[i], by simp [hlt]⟩
    have hgn := leL6 g (List.mem_of_getElem? hg)
    obtain ⟨pb, po, ha, hpb, hpu, hpz, hpr⟩ := (RL6.mono st.ge).row i g hg
    subst ha
    rw [rep_rme] at hpr
    obtain ⟨xv, hpr, rm⟩ := hpr
    simp only [sz_rme, hvs_1, List.cons.injEq, and_true] at hpr hpu hpz
    obtain ⟨xa, xc, hxv⟩ : ∃ xa xc, xv = .slice xa g.n xc := by
      unfold Room at rm
      split at rm
      · exact ⟨none, 0, by rw [rm.1, rm.2]⟩
      · obtain ⟨c, e, -⟩ := rm; exact ⟨_, c, e⟩
    subst hxv
    have hin1 : ∀ {s : Nat} {L : List (RmE s)}, InH h L → InH h4 L := fun q => InH.mono q hz
    have htc : ∀ b, g.t = some b → 0 < (rtags L6).count b := fun b q => tag_mem hg q
    have hm0 := WL6 i g hg
    rw [if_neg (Nat.lt_irrefl _)] at hm0
    simp (disch := first | omega | (simp only [e_ssz, e_psz, e_hszs, List.length_cons, List.length_nil]; try omega; done)) only [↓reduceIte, go_sem, owWrite_L7, es, el, ei, hlt, hpr]
    obtain ⟨J, hJ⟩ : ∃ J : Nat → Env → H → Prop, J = fun j σ' h' => σ' 0 = σ 0 ∧ σ' 93 = σ 93 ∧ σ' 94 = σ 94 ∧ σ' 95 = σ 95 ∧ σ' 11 = .int .i64 (i : Nat) ∧ σ' 12 = .slice xa g.n xc ∧ σ' 101 = .int .i64 (g.n : Nat) ∧ σ' 102 = .int .i64 (j : Nat) ∧ j ≤ g.n ∧ Step (fun b => g.t = some b) u h4 u h' ∧ ∀ b, g.t = some b → Prt 2 2 false i h' b g.n j := ⟨_, rfl⟩
    refine wpS_loop J (fun j => g.n - j) 0 (by rw [hJ]; exact ⟨by simp [upd], by simp [upd], by simp [upd], by simp [upd], by simp [upd], by simp [upd], by simp [upd], by simp [upd], Nat.zero_le _, .refl _ _ _, fun b hb => ⟨fun q hq => absurd hq (Nat.not_lt_zero _), fun q _ hq => hm0 b hb q hq⟩⟩) ?_
    intro j σ' hx hy
    rw [hJ] at hy
    obtain ⟨f0, fs, fl, fi, fit, flt, fl2, fi2, hj, sx, PX⟩ := hy
    rw [e0] at f0
    rw [es] at fs
    rw [el] at fl
    rw [ei] at fi
    have hzx := sx.ge.sz
    by_cases hjn : j < g.n
    · obtain ⟨b, hb⟩ : ∃ b, g.t = some b := by
        unfold Room at rm
        split at rm
        · have := rm.2; omega
        · exact ⟨_, by assumption⟩
      have rm2 := rm
      rw [hb] at rm2
      obtain ⟨c, ec, r2, r3, r4, r5, r6⟩ := rm2
      cases ec
      have hzb : hsz hx b = xc * 3 := by rw [(sx.ge.hs b r4).1]; exact r5
      have hfb : hfr hx b = (0, 0) := by rw [(sx.ge.hs b r4).2]; exact r6
      have ub0 : u b = 0 := hu0 b (by unfold tot; have := htc b hb; omega)
      have hjz : j * (2 + 1) + (2 + 1) ≤ hsz hx b := by rw [hzb]; omega
      simp (disch := first | omega | (simp only [e_ssz, e_psz, e_hszs, List.length_cons, List.length_nil]; try omega; done)) only [↓reduceIte, go_sem, owWrite_L8, fit, fl2, fi2, hjn]
      refine effS_call (.inl ⟨rfl, i, j, rfl, ⟨by simp (disch := first | omega | (simp only [e_ssz, e_psz, e_hszs, List.length_cons, List.length_nil]; try omega; done)) only [go_sem], ?_⟩⟩)
      simp (disch := first | omega | (simp only [e_ssz, e_psz, e_hszs, List.length_cons, List.length_nil]; try omega; done)) only [↓reduceIte, go_sem, flt, fi2, hjn, hzb, hfb]
      refine ⟨by omega, ⟨j + 1, ?_, by omega⟩⟩
      rw [hJ]
      have PY := (PX b hb).one hjn (by decide) hjz
      have sy := Step.sets (S := fun x => g.t = some x) u hx (b := b) (o := j * (2 + 1) + 2) (l := [.int .i64 (markF i j)]) hb (by rw [ub0]; exact Nat.zero_le _) (by simp only [List.length_cons, List.length_nil]; omega)
      exact ⟨by simp [upd, f0, e0], by simp [upd, fs, es], by simp [upd, fl, el], by simp [upd, fi, ei], by simp [upd, fit], by simp [upd, flt], by simp [upd, fl2], by simp [upd], hjn, sx.trans sy (fun _ _ q => q), fun b' hb' => by rw [hb] at hb'; cases hb'; exact PY⟩
    · obtain rfl : j = g.n := by omega
      simp (disch := first | omega | (simp only [e_ssz, e_psz, e_hszs, List.length_cons, List.length_nil]; try omega; done)) only [↓reduceIte, go_sem, owWrite_L8, fi, fl2, fi2]
      refine ⟨i + 1, ?_, by omega⟩
      rw [hI]
      have hsame : ∀ c, c < h4.size → g.t ≠ some c → hx[c]? = h4[c]? := fun c hc hne => (sx.same c hc hne).1
      exact ⟨by simp [upd, f0], by simp [upd, fs], by simp [upd, fl], by simp [upd], hlt, st.trans sx (fun b _ q => gt b (by unfold tot; have := htc b q; omega)), WF.step1 WL6 (hin1 NL6) hg oL6 hsame (fun b hb q hq => (PX b hb).1 q hq), WF.otherO WL0 (hin1 NL0) hsame (fun b q => by have := htc b q; have := hc1 b; omega), WF.otherO WL2 (hin1 NL2) hsame (fun b q => by have := htc b q; have := hc1 b; omega), WF.otherO WL4 (hin1 NL4) hsame (fun b q => by have := htc b q; have := hc1 b; omega), WF.otherO WL8 (hin1 NL8) hsame (fun b q => by have := htc b q; have := hc1 b; omega)⟩
  obtain rfl : i = L6.length := by omega
  clear hI
  simp (disch := first | omega | (simp only [e_ssz, e_psz, e_hszs, List.length_cons, List.length_nil]; try omega; done)) only [↓reduceIte, go_sem, owWrite_L7, e0, el, ei, Bn.at, Bn.2.1]
  clear es el ei hi hlt Bn Bn1 hz
  -- L8
  obtain ⟨I, hI⟩ : ∃ I : Nat → Env → H → Prop, I = fun i σ h' => σ 0 = .pointer (some ⟨bb, 0, none⟩) ∧ σ 117 = .slice av8 L8.length cv8 ∧ σ 118 = .int .i64 (L8.length : Nat) ∧ σ 119 = .int .i64 (i : Nat) ∧ i ≤ L8.length ∧ Step GT u h u h' ∧ WF 2 1 false h' L8 i ∧ WF 3 3 true h' L0 L0.length ∧ WF 13 13 false h' L2 L2.length ∧ WF 3 2 false h' L4 L4.length ∧ WF 2 2 false h' L6 L6.length := ⟨_, rfl⟩
  refine wpS_loop I (fun j => L8.length - j) 0 (by rw [hI]; exact ⟨by simp [upd, e0], by simp [upd], by simp [upd], by simp [upd], Nat.zero_le _, st, WL8, WL0, WL2, WL4, WL6⟩) ?_
  clear st WL8 WL0 WL2 WL4 WL6 e0
  intro i σ h5 hy
  rw [hI] at hy
  obtain ⟨e0, es, el, ei, hi, st, WL8, WL0, WL2, WL4, WL6⟩ := hy
  have Bn := B.step st gbb
  have Bn1 := Bn.1
  have hz := st.ge.sz
  by_cases hlt : i < L8.length
  · obtain ⟨g, hg⟩ : ∃ g, L8[i]? = some g := ⟨L8[i], by simp [hlt]⟩
    have hgn := leL8 g (List.mem_of_getElem? hg)
    obtain ⟨pb, po, ha, hpb, hpu, hpz, hpr⟩ := (RL8.mono st.ge).row i g hg
    subst ha
    rw [rep_rme] at hpr
    obtain ⟨xv, hpr, rm⟩ := hpr
    simp only [sz_rme, hvs_1, List.cons.injEq, and_true] at hpr hpu hpz
    obtain ⟨xa, xc, hxv⟩ : ∃ xa xc, xv = .slice xa g.n xc := by
      unfold Room at rm
      split at rm
      · exact ⟨none, 0, by rw [rm.1, rm.2]⟩
      · obtain ⟨c, e, -⟩ := rm; exact ⟨_, c, e⟩
    subst hxv
    have hin1 : ∀ {s : Nat} {L : List (RmE s)}, InH h L → InH h5 L := fun q => InH.mono q hz
    have htc : ∀ b, g.t = some b → 0 < (rtags L8).count b := fun b q => tag_mem hg q
    have hm0 := WL8 i g hg
    rw [if_neg (Nat.lt_irrefl _)] at hm0
    simp (disch := first | omega | (simp only [e_ssz, e_psz, e_hszs, List.length_cons, List.length_nil]; try omega; done)) only [↓reduceIte, go_sem, owWrite_L9, es, el, ei, hlt, hpr]
    obtain ⟨J, hJ⟩ : ∃ J : Nat → Env → H → Prop, J = fun j σ' h' => σ' 0 = σ 0 ∧ σ' 117 = σ 117 ∧ σ' 118 = σ 118 ∧ σ' 119 = σ 119 ∧ σ' 14 = .int .i64 (i : Nat) ∧ σ' 15 = .slice xa g.n xc ∧ σ' 125 = .int .i64 (g.n : Nat) ∧ σ' 126 = .int .i64 (j : Nat) ∧ j ≤ g.n ∧ Step (fun b => g.t = some b) u h5 u h' ∧ ∀ b, g.t = some b → Prt 2 1 false i h' b g.n j := ⟨_, rfl⟩
    refine wpS_loop J (fun j => g.n - j) 0 (by rw [hJ]; exact ⟨by simp [upd], by simp [upd], by simp [upd], by simp [upd], by simp [upd], by simp [upd], by simp [upd], by simp [upd], Nat.zero_le _, .refl _ _ _, fun b hb => ⟨fun q hq => absurd hq (Nat.not_lt_zero _), fun q _ hq => hm0 b hb q hq⟩⟩) ?_
    intro j σ' hx hy
    rw [hJ] at hy
    obtain ⟨f0, fs, fl, fi, fit, flt, fl2, fi2, hj, sx, PX⟩ := hy
    rw [e0] at f0
    rw [es] at fs
    rw [el] at fl
    rw [ei] at fi
    have hzx := sx.ge.sz
    by_cases hjn : j < g.n
    · obtain ⟨b, hb⟩ : ∃ b, g.t = some b := by
        unfold Room at rm
        split at rm
        · have := rm.2; omega
        · exact ⟨_, by assumption⟩
      have rm2 := rm
      rw [hb] at rm2
      obtain ⟨c, ec, r2, r3, r4, r5, r6⟩ := rm2
      cases ec
      have hzb : hsz hx b = xc * 3 := by rw [(sx.ge.hs b r4).1]; exact r5
      have hfb : hfr hx b = (0, 0) := by rw [(sx.ge.hs b r4).2]; exact r6
      have ub0 : u b = 0 := hu0 b (by unfold tot; have := htc b hb; omega)
      have hjz : j * (2 + 1) + (2 + 1) ≤ hsz hx b := by rw [hzb]; omega
      simp (disch := first | omega | (simp only [e_ssz, e_psz, e_hszs, List.length_cons, List.length_nil]; try omega; done)) only [↓reduceIte, go_sem, owWrite_L10, fit, fl2, fi2, hjn]
      refine effS_call (.inl ⟨rfl, i, j, rfl, ⟨by simp (disch := first | omega | (simp only [e_ssz, e_psz, e_hszs, List.length_cons, List.length_nil]; try omega; done)) only [go_sem], ?_⟩⟩)
      simp (disch := first | omega | (simp only [e_ssz, e_psz, e_hszs, List.length_cons, List.length_nil]; try omega; done)) only [↓reduceIte, go_sem, flt, fi2, hjn, hzb, hfb]
      refine ⟨by omega, by omega, ⟨j + 1, ?_, by omega⟩⟩
      rw [hJ]
      have PY := (PX b hb).full (l := [.int .i64 9, .int .i64 (markF i j), str []]) hjz ⟨rfl, rfl, rfl, fun q => by cases q⟩
      have sy := Step.sets (S := fun x => g.t = some x) u hx (b := b) (o := j * (2 + 1)) (l := [.int .i64 9, .int .i64 (markF i j), str []]) hb (by rw [ub0]; exact Nat.zero_le _) (by simp only [List.length_cons, List.length_nil]; omega)
      exact ⟨by simp [upd, f0, e0], by simp [upd, fs, es], by simp [upd, fl, el], by simp [upd, fi, ei], by simp [upd, fit], by simp [upd, flt], by simp [upd, fl2], by simp [upd], hjn, sx.trans sy (fun _ _ q => q), fun b' hb' => by rw [hb] at hb'; cases hb'; exact PY⟩
    · obtain rfl : j = g.n := by omega
      simp (disch := first | omega | (simp only [e_ssz, e_psz, e_hszs, List.length_cons, List.length_nil]; try omega; done)) only [↓reduceIte, go_sem, owWrite_L10, fi, fl2, fi2]
      refine ⟨i + 1, ?_, by omega⟩
      rw [hI]
      have hsame : ∀ c, c < h5.size → g.t ≠ some c → hx[c]? = h5[c]? := fun c hc hne => (sx.same c hc hne).1
      exact ⟨by simp [upd, f0], by simp [upd, fs], by simp [upd, fl], by simp [upd], hlt, st.trans sx (fun b _ q => gt b (by unfold tot; have := htc b q; omega)), WF.step1 WL8 (hin1 NL8) hg oL8 hsame (fun b hb q hq => (PX b hb).1 q hq), WF.otherO WL0 (hin1 NL0) hsame (fun b q => by have := htc b q; have := hc1 b; omega), WF.otherO WL2 (hin1 NL2) hsame (fun b q => by have := htc b q; have := hc1 b; omega), WF.otherO WL4 (hin1 NL4) hsame (fun b q => by have := htc b q; have := hc1 b; omega), WF.otherO WL6 (hin1 NL6) hsame (fun b q => by have := htc b q; have := hc1 b; omega)⟩
  obtain rfl : i = L8.length := by omega
  clear hI
  simp (disch := first | omega | (simp only [e_ssz, e_psz, e_hszs, List.length_cons, List.length_nil]; try omega; done)) only [↓reduceIte, go_sem, owWrite_L9, e0, el, ei]
  -- settled anew
  obtain ⟨u2, hu2⟩ : ∃ u2 : U, u2 = fun j => (setl L0 j).getD ((setl L2 j).getD ((setl L4 j).getD ((setl L6 j).getD ((setl L8 j).getD (u j))))) := ⟨_, rfl⟩
  have hu20 : ∀ j, tot L0 L2 L4 L6 L8 j = 0 → u2 j = u j := fun j q => by
    unfold tot at q
    rw [hu2]
    simp only
    rw [setl_none (L := L0) (by omega), setl_none (L := L2) (by omega), setl_none (L := L4) (by omega), setl_none (L := L6) (by omega), setl_none (L := L8) (by omega)]
    rfl
  have hup : ∀ j, 0 < u j → u2 j = u j := fun j q => hu20 j (by have := hu0 j; omega)
  have qL0 : ∀ (q : Nat) (g : RmE 3) (b : Nat), L0[q]? = some g → g.t = some b → u2 b = g.n * (3 + 1) := fun q g b hg ht => by
    have hc := tag_mem hg ht
    have := hc1 b
    rw [hu2]
    simp only
    rw [setl_some (oL0 b) hg ht]
    rfl
  have qL2 : ∀ (q : Nat) (g : RmE 13) (b : Nat), L2[q]? = some g → g.t = some b → u2 b = g.n * (13 + 1) := fun q g b hg ht => by
    have hc := tag_mem hg ht
    have := hc1 b
    rw [hu2]
    simp only
    rw [setl_none (L := L0) (by omega), setl_some (oL2 b) hg ht]
    rfl
  have qL4 : ∀ (q : Nat) (g : RmE 3) (b : Nat), L4[q]? = some g → g.t = some b → u2 b = g.n * (3 + 1) := fun q g b hg ht => by
    have hc := tag_mem hg ht
    have := hc1 b
    rw [hu2]
    simp only
    rw [setl_none (L := L0) (by omega), setl_none (L := L2) (by omega), setl_some (oL4 b) hg ht]
    rfl
  have qL6 : ∀ (q : Nat) (g : RmE 2) (b : Nat), L6[q]? = some g → g.t = some b → u2 b = g.n * (2 + 1) := fun q g b hg ht => by
    have hc := tag_mem hg ht
    have := hc1 b
    rw [hu2]
    simp only
    rw [setl_none (L := L0) (by omega), setl_none (L := L2) (by omega), setl_none (L := L4) (by omega), setl_some (oL6 b) hg ht]
    rfl
  have qL8 : ∀ (q : Nat) (g : RmE 2) (b : Nat), L8[q]? = some g → g.t = some b → u2 b = g.n * (2 + 1) := fun q g b hg ht => by
    have hc := tag_mem hg ht
    have := hc1 b
    rw [hu2]
    simp only
    rw [setl_none (L := L0) (by omega), setl_none (L := L2) (by omega), setl_none (L := L4) (by omega), setl_none (L := L6) (by omega), setl_some (oL8 b) hg ht]
    rfl
  have Bg : Blk u2 h5 bb (bkE (.slice av0 L0.length cv0) (.slice av2 L2.length cv2) (.slice av4 L4.length cv4) (.slice av6 L6.length cv6) (.slice av8 L8.length cv8)) := by
    obtain ⟨k1, k2, k3, k4, k5⟩ := Bn
    exact ⟨k1, k2, k3, by rw [hu20 bb (by unfold tot; omega)]; exact k4, k5⟩
  refine effS_call (.inr ⟨rfl, u2, bb, _, _, _, _, _, L0, L2, L4, L6, L8, rfl, Bg, ⟨isSl_rm (RL0.mono st.ge) hup, isSl_mks (RL0.mono st.ge) hup WL0 qL0, InH.mono NL0 hz, fun q g hg _ b hb => qL0 q g b hg hb, leL0, lenL0⟩, ⟨isSl_rm (RL2.mono st.ge) hup, isSl_mks (RL2.mono st.ge) hup WL2 qL2, InH.mono NL2 hz, fun q g hg _ b hb => qL2 q g b hg hb, leL2, lenL2⟩, ⟨isSl_rm (RL4.mono st.ge) hup, isSl_mks (RL4.mono st.ge) hup WL4 qL4, InH.mono NL4 hz, fun q g hg _ b hb => qL4 q g b hg hb, leL4, lenL4⟩, ⟨isSl_rm (RL6.mono st.ge) hup, isSl_mks (RL6.mono st.ge) hup WL6 qL6, InH.mono NL6 hz, fun q g hg _ b hb => qL6 q g b hg hb, leL6, lenL6⟩, ⟨isSl_rm (RL8.mono st.ge) hup, isSl_mks (RL8.mono st.ge) hup WL8 qL8, InH.mono NL8 hz, fun q g hg _ b hb => qL8 q g b hg hb, leL8, lenL8⟩, hc1, (by unfold tot; omega), fun u' h' w1 w3 w5 w7 w9 s' fin => ⟨by simp (disch := first | omega | (simp only [e_ssz, e_psz, e_hszs, List.length_cons, List.length_nil]; try omega; done)) only [go_sem], ?_⟩⟩)
  simp (disch := first | omega | (simp only [e_ssz, e_psz, e_hszs, List.length_cons, List.length_nil]; try omega; done)) only [go_sem]
  have hz' := s'.ge.sz
  refine hK u' h' w1 w3 w5 w7 w9 (by omega) (fun j hj => ?_) (fun j hj hjb hj0 => ?_) fin
  · have q1 := st.ge.hs j hj
    have q2 := s'.ge.hs j (by omega)
    exact ⟨q2.1.trans q1.1, q2.2.trans q1.2⟩
  · have q1 := (st.same j hj (fun q => by have := gt' j q; omega)).1
    have q2 := (s'.same j (by omega) (fun q => q.elim hjb (fun q => by omega))).1
    exact q2.trans q1
end Go.Proofs.YtlenjlidahnklaaDoor
