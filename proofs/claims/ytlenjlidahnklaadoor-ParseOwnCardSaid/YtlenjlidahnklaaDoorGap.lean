/- What the gap functions of the program and of the reference compute. -/
import Derived.Test.YtlenjlidahnklaaDoorGapS
import Derived.Test.YtlenjlidahnklaaDoorLexP
import Derived.Test.YtlenjlidahnklaaDoorEnd
namespace Go.Proofs.YtlenjlidahnklaaDoor
open Go Go.Ev Edict

/-! ### edictref02 -/
def twoL (s : List UInt8) (k : Nat) : List UInt8 := if k + 2 ≤ s.length then (s.drop k).take 2 else []
def C_rfBlankB (vs : List Value) (h : H) (K : Value → H → Prop) : Prop := ∃ c : Nat, vs = [.int .u8 c] ∧ K (.bool (isBl c)) h
theorem isBl_eq (c : Nat) : (decide ((c : Int) = 32) || decide ((c : Int) = 9) || decide ((c : Int) = 10) || decide ((c : Int) = 13)) = isBl c := by
  unfold isBl; apply Bool.eq_iff_iff.2; simp; omega
theorem batf (s : List UInt8) (k : Nat) : (s.getD k 0).toNat = bat s k := rfl
theorem twoL_eq (s : List UInt8) (k : Nat) (a b : UInt8) : decide (twoL s k = [a, b]) = pr s k a.toNat b.toNat := by
  unfold twoL pr bat
  apply Bool.eq_iff_iff.2
  simp only [decide_eq_true_eq, Bool.and_eq_true, beq_iff_eq, UInt8.toNat_inj]
  by_cases h : k + 2 ≤ s.length
  · rw [if_pos h]
    have h1 : s.drop k = s.getD k 0 :: s.getD (k + 1) 0 :: s.drop (k + 2) := by
      rw [List.drop_eq_getElem_cons (by omega), List.drop_eq_getElem_cons (by omega)]
      simp [List.getD_eq_getElem?_getD, List.getElem?_eq_getElem (show k < s.length by omega), List.getElem?_eq_getElem (show k + 1 < s.length by omega)]
    rw [h1]
    simp only [List.take_succ_cons, List.take_zero, List.cons.injEq, and_true]
    exact ⟨fun ⟨x, y⟩ => ⟨⟨by omega, x⟩, y⟩, fun ⟨⟨_, x⟩, y⟩ => ⟨x, y⟩⟩
  · rw [if_neg h]
    simp; omega
def comF (s : List UInt8) (k : Nat) : Int := if bat s k = 37 then (lineE s k : Nat) else match blk s 1 (k + 2) with | some j => (j : Nat) | none => -1
def C_rfComment (vs : List Value) (h : H) (K : Value → H → Prop) : Prop :=
  ∃ (s : List UInt8) (n : Int), vs = [str s, .int .i64 n] ∧ 0 ≤ n ∧ n < s.length ∧ s.length ≤ 65536 ∧ (bat s n.toNat ≠ 37 → pr s n.toNat 47 42 = true) ∧ K (.int .i64 (comF s n.toNat)) h
/-- From depth d on (0: ahead of the first). -/
def blk0 (s : List UInt8) (d k : Nat) : Option Nat := if d = 0 then (if pr s k 47 42 then blk s 1 (k + 2) else none) else blk s d k
def okN (b : Bool) : Int := if b then 0 else 16
def C_rfGap (vs : List Value) (h : H) (K : Value → H → Prop) : Prop :=
  ∃ (s : List UInt8) (n : Int), vs = [str s, .int .i64 n] ∧ 0 ≤ n ∧ n ≤ s.length ∧ s.length ≤ 65536 ∧ K (.tuple #[.int .i64 (gapF s n.toNat).1, .int .i64 (okN (gapF s n.toNat).2)]) h
theorem twoP (s : List UInt8) (j : Nat) (a b : UInt8) : (twoL s j = [a, b]) = (pr s j a.toNat b.toNat = true) := by
  rw [← decide_eq_true_iff (p := twoL s j = [a, b]), twoL_eq]
def C_lxIsBlank (vs : List Value) (h : H) (K : Value → H → Prop) : Prop := ∃ c : Nat, vs = [.int .u8 c] ∧ K (.bool (isBl c)) h
theorem lxIsBlank_ok {vs : List Value} {h : H} {K : Value → H → Prop} {KP : List PanicEntry → H → Prop} (hC : C_lxIsBlank vs h K) : HCX Tryd.prog 57 vs h K KP := by
  obtain ⟨c, rfl, hK⟩ := hC
  refine lxIsBlank_H (fun _ _ _ _ _ => False) (fun _ _ _ _ _ h => h.elim) _ ?_
  simp (disch := first | omega | (simp only [e_ssz, e_psz, e_hszs, List.length_cons, List.length_nil]; try omega; done)) only [↓reduceIte, go_sem, lxIsBlank_S, lxIsBlank_E, isBl_eq]
  exact hK
def C_hasPrefix (vs : List Value) (h : H) (K : Value → H → Prop) : Prop := ∃ s t : List UInt8, vs = [str s, str t] ∧ s.length ≤ 9223372036854775807 ∧ t.length ≤ 9223372036854775807 ∧ K (.bool (t.isPrefixOf s)) h
theorem isPrefixOf_take (s t : List UInt8) : (decide (t.length ≤ s.length) && decide (s.take t.length = t)) = t.isPrefixOf s := by
  apply Bool.eq_iff_iff.2
  rw [List.isPrefixOf_iff_prefix, List.prefix_iff_eq_take]
  simp only [Bool.and_eq_true, decide_eq_true_eq]
  exact ⟨fun h => h.2.symm, fun h => ⟨by rw [h]; simp; omega, h.symm⟩⟩
theorem slHasPrefix_ok {vs : List Value} {h : H} {K : Value → H → Prop} {KP : List PanicEntry → H → Prop} (hC : C_hasPrefix vs h K) : HCX Tryd.prog 63 vs h K KP := by
  obtain ⟨s, t, rfl, h1, h2, hK⟩ := hC
  refine slHasPrefix_H (fun _ _ _ _ _ => False) (fun _ _ _ _ _ h => h.elim) _ _ ?_
  simp (disch := first | omega | (simp only [e_ssz, e_psz, e_hszs, List.length_cons, List.length_nil]; try omega; done)) only [↓reduceIte, go_sem, slHasPrefix_S, slHasPrefix_E]
  refine ⟨fun h => ⟨by omega, by omega⟩, ?_⟩
  rw [← isPrefixOf_take, ← decide_eq_decide.2 (Int.ofNat_le (m := t.length) (n := s.length))] at hK
  exact hK
def G_stHasPrefix : Ctr := fun f vs h K _ => f = 63 ∧ C_hasPrefix vs h K
theorem G_stHasPrefix_ok : GOk Tryd.prog G_stHasPrefix := by
  rintro f vs h K KP ⟨rfl, hC⟩; exact slHasPrefix_ok hC
theorem stHasPrefix_ok {vs : List Value} {h : H} {K : Value → H → Prop} {KP : List PanicEntry → H → Prop} (hC : C_hasPrefix vs h K) : HCX Tryd.prog 56 vs h K KP := by
  obtain ⟨s, t, rfl, h1, h2, hK⟩ := hC
  refine stHasPrefix_H _ G_stHasPrefix_ok _ _ ?_
  simp (disch := first | omega | (simp only [e_ssz, e_psz, e_hszs, List.length_cons, List.length_nil]; try omega; done)) only [↓reduceIte, go_sem, e_call, stHasPrefix_S, stHasPrefix_E, G_stHasPrefix, C_hasPrefix]
  exact ⟨h1, h2, hK⟩
theorem pre_pr (s : List UInt8) (k : Nat) (a b : UInt8) : List.isPrefixOf [a, b] (s.drop k) = pr s k a.toNat b.toNat := by
  rw [← twoL_eq]
  apply Bool.eq_iff_iff.2
  rw [List.isPrefixOf_iff_prefix, List.prefix_iff_eq_take, decide_eq_true_eq]
  unfold twoL
  by_cases h : k + 2 ≤ s.length
  · rw [if_pos h]; exact eq_comm
  · rw [if_neg h]
    refine ⟨fun e => ?_, fun e => by cases e⟩
    have := congrArg List.length e
    simp at this
    omega
/-- A reader of s at k: block B. -/
def Rd (h : H) (B : Nat) (s : List UInt8) (k : Nat) : Prop := hsz h B = 2 ∧ hfr h B = (0, 0) ∧ hv h B 0 = str s ∧ hv h B 1 = .int .i64 k ∧ k ≤ s.length ∧ s.length ≤ 65536
def C_lxGap (vs : List Value) (h : H) (K : Value → H → Prop) : Prop :=
  ∃ (B : Nat) (s : List UInt8) (k : Nat), vs = [.pointer (some ⟨B, 0, none⟩)] ∧ Rd h B s k ∧
    ∀ j : Nat, j ≤ s.length → ((gapF s k).2 = true → j = (gapF s k).1) → K (.tuple #[.int .i64 (gapF s k).1, .bool (gapF s k).2]) (hset h B 1 (.int .i64 j))
def G_lxGap : Ctr := fun f vs h K _ => (f = 56 ∧ C_hasPrefix vs h K) ∨ (f = 57 ∧ C_lxIsBlank vs h K)
theorem G_lxGap_ok : GOk Tryd.prog G_lxGap := by
  rintro f vs h K KP (⟨rfl, hC⟩ | ⟨rfl, hC⟩)
  · exact stHasPrefix_ok hC
  · exact lxIsBlank_ok hC
theorem lxGap_ok {vs : List Value} {h : H} {K : Value → H → Prop} {KP : List PanicEntry → H → Prop} (hC : C_lxGap vs h K) : HCX Tryd.prog 48 vs h K KP := by
  obtain ⟨B, s, k, rfl, ⟨hz, hf, hs, hk, hkl, hsl⟩, hK⟩ := hC
  refine lxGap_H _ G_lxGap_ok _ ?_
  simp (disch := first | omega | (simp only [e_ssz, e_psz, e_hszs, List.length_cons, List.length_nil]; try omega; done)) only [go_sem, lxGap_S, lxGap_E]
  refine wpS_loop (fun (j : Nat) σ h' => σ 0 = .pointer (some ⟨B, 0, none⟩) ∧ h' = hset h B 1 (.int .i64 j) ∧ j ≤ s.length ∧ gapF s j = gapF s k) (fun j => s.length - j) k ⟨by simp [upd], by rw [← hk, hset_self (by omega)], by omega, rfl⟩ ?_
  rintro j σ h' ⟨e0, rfl, hj, he⟩
  simp (disch := first | omega | (simp only [e_ssz, e_psz, e_hszs, List.length_cons, List.length_nil]; try omega; done)) only [↓reduceIte, go_sem, e_call, lxGap_L1, batf, e0, hs, hz, hf, e_hvs, G_lxGap, C_hasPrefix, C_lxIsBlank, pre_pr]
  simp only [show (47 : UInt8).toNat = 47 from rfl, show (42 : UInt8).toNat = 42 from rfl]
  refine ⟨fun hlt => ⟨by omega, by omega, fun hb => ⟨j + 1, by simp, by omega, (gap_bl (by omega) hb).symm.trans he, by omega⟩, fun hb => ⟨by omega, by omega, fun h37 => ?_, fun h37 => ⟨by omega, by omega, by simp; omega, fun hp => ?_, fun hp => ?_⟩⟩⟩, fun hge => ?_⟩
  · have h37' : bat s j = 37 := by omega
    have g1 := lineE_ge s (j + 1)
    have g2 := lineE_le s (j + 1) (by omega)
    have e1 : lineE s j = lineE s (j + 1) := lineE_step (by omega) (by omega)
    refine wpS_loop (fun (i : Nat) σ h' => σ 0 = .pointer (some ⟨B, 0, none⟩) ∧ h' = hset h B 1 (.int .i64 i) ∧ j ≤ i ∧ i ≤ s.length ∧ lineE s i = lineE s j) (fun i => s.length - i) j ⟨by simp [upd, e0], rfl, by omega, hj, rfl⟩ ?_
    rintro i σ h' ⟨e0, rfl, hji, hi, hli⟩
    simp (disch := first | omega | (simp only [e_ssz, e_psz, e_hszs, List.length_cons, List.length_nil]; try omega; done)) only [↓reduceIte, go_sem, lxGap_L2, batf, e0, hs, hz, hf, e_hvs]
    refine ⟨fun hlt => by omega, fun ⟨hlt, hne⟩ => ⟨i + 1, by simp, by omega, by omega, (lineE_step (by omega) (by omega)).symm.trans hli, by omega⟩, fun hx => ⟨i, rfl, hi, ?_, ?_⟩⟩
    · rw [lineE_stop (by omega)] at hli
      rw [hli, e1]; exact (gap_line (by omega) h37').symm.trans he
    · rw [lineE_stop (by omega)] at hli
      omega
  · have hpl := pr_lt hp
    refine wpS_loop (fun (x : Nat × Nat) σ h' => σ 0 = .pointer (some ⟨B, 0, none⟩) ∧ σ 4 = .int .i64 j ∧ σ 5 = .int .i64 x.1 ∧ h' = hset h B 1 (.int .i64 x.2) ∧ j < x.2 ∧ x.2 ≤ s.length ∧ 1 ≤ x.1 ∧ x.1 ≤ x.2 ∧ blk s x.1 x.2 = blk s 1 (j + 2)) (fun x => s.length - x.2) (1, j + 2)
      ⟨by simp [upd, e0], by simp [upd], by simp [upd], by simp, by simp only; omega, by simp only; omega, by simp, by simp, rfl⟩ ?_
    rintro ⟨d, i⟩ σ h' ⟨e0, e4, e5, rfl, hji, hi, hd, hdi, hbe⟩
    simp only at e5 hji hi hd hdi hbe
    simp (disch := first | omega | (simp only [e_ssz, e_psz, e_hszs, List.length_cons, List.length_nil]; try omega; done)) only [↓reduceIte, go_sem, e_call, lxGap_L3, e0, e4, e5, hs, hz, hf, e_hvs, G_lxGap, C_hasPrefix, C_lxIsBlank, pre_pr]
    simp only [show (47 : UInt8).toNat = 47 from rfl, show (42 : UInt8).toNat = 42 from rfl]
    refine ⟨fun hlt => ⟨by omega, by omega, by simp; omega, fun h1 => ⟨(d + 1, i + 2), by simp, by simp, by simp only; omega, ?_, by simp, by simp only; omega, (blk_up h1).symm.trans hbe, ?_⟩,
      fun h1 => ⟨by omega, by omega, by simp; omega, fun h2 => ⟨fun hz => ⟨i + 2, by simp, ?_, ?_, ?_⟩, fun hz => ⟨(d - 1, i + 2), ?_, by simp, by simp only; omega, ?_, ?_, by simp only; omega, ?_, ?_⟩⟩, fun h2 => ⟨(d, i + 1), rfl, by simp, by simp only; omega, by simp only; omega, hd, by simp only; omega, (blk_on (by omega) h1 h2).symm.trans hbe, by simp only; omega⟩⟩⟩, fun hge => ?_⟩
    · have := pr_lt h1; simp only; omega
    · have := pr_lt h1; simp only; omega
    · have := pr_lt h2; omega
    · rw [blk_down h1 h2, if_pos (by omega)] at hbe
      exact (gap_some hp hbe.symm).symm.trans he
    · have := pr_lt h2; omega
    · simp only; omega
    · have := pr_lt h2; simp only; omega
    · simp only; omega
    · rw [blk_down h1 h2, if_neg (by omega)] at hbe; exact hbe
    · have := pr_lt h2; simp only; omega
    · rw [blk_end (by omega)] at hbe
      rw [← he, gap_none hp hbe.symm] at hK
      exact hK i hi (fun hx => by cases hx)
  · have := gap_else hb (by omega) hp
    rw [← he, this] at hK
    exact hK j hj (fun _ => rfl)
  · have := gap_end (s := s) (k := j) (by omega)
    rw [← he, this] at hK
    exact hK j hj (fun _ => rfl)

end Go.Proofs.YtlenjlidahnklaaDoor
