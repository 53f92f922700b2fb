/- What the gap functions of the program and of the reference compute. -/
import Derived.Test.YtmnfhmbmifompaaDoorGapS
import Derived.Test.YtmnfhmbmifompaaDoorPlV0
import Derived.Test.YtmnfhmbmifompaaDoorShelfI
namespace Go.Proofs.YtmnfhmbmifompaaDoor
open Go Go.Ev Edict

/-! ### edictref02 -/
def twoL (s : List UInt8) (k : Nat) : List UInt8 := if k + 2 ≤ s.length then (s.drop k).take 2 else []
def C_rfBlankB (vs : List Value) (h : H) (K : Value → H → Prop) : Prop := ∃ c : Nat, vs = [.int .u8 c] ∧ K (.bool (isBl c)) h
theorem isBl_eq (c : Nat) : (decide ((c : Int) = 32) || decide ((c : Int) = 9) || decide ((c : Int) = 10) || decide ((c : Int) = 13)) = isBl c := by
  unfold isBl; apply Bool.eq_iff_iff.2; simp; omega
theorem rfBlankB_ok {vs : List Value} {h : H} {K : Value → H → Prop} {KP : List PanicEntry → H → Prop} (hC : C_rfBlankB vs h K) : HCX Tryd.prog 121 vs h K KP := by
  obtain ⟨c, rfl, hK⟩ := hC
  refine rfBlankB_H (fun _ _ _ _ _ => False) (fun _ _ _ _ _ h => h.elim) _ ?_
  simp (disch := first | omega | (simp only [e_ssz, e_psz, e_hszs, List.length_cons, List.length_nil]; try omega; done)) only [↓reduceIte, go_sem, rfBlankB_S, rfBlankB_E, isBl_eq]
  exact hK
def C_rfTwo (vs : List Value) (h : H) (K : Value → H → Prop) : Prop := ∃ (s : List UInt8) (n : Int), vs = [str s, .int .i64 n] ∧ 0 ≤ n ∧ n ≤ s.length ∧ s.length ≤ 65536 ∧ K (str (twoL s n.toNat)) h
theorem rfTwo_ok {vs : List Value} {h : H} {K : Value → H → Prop} {KP : List PanicEntry → H → Prop} (hC : C_rfTwo vs h K) : HCX Tryd.prog 120 vs h K KP := by
  obtain ⟨s, n, rfl, h0, h1, h2, hK⟩ := hC
  obtain ⟨k, rfl⟩ := Int.eq_ofNat_of_zero_le h0
  refine rfTwo_H (fun _ _ _ _ _ => False) (fun _ _ _ _ _ h => h.elim) _ _ ?_
  simp (disch := first | omega | (simp only [e_ssz, e_psz, e_hszs, List.length_cons, List.length_nil]; try omega; done)) only [↓reduceIte, go_sem, rfTwo_S, rfTwo_E]
  simp only [Int.toNat_natCast, twoL] at hK
  refine ⟨fun hlt => ?_, fun hlt => ⟨by omega, by omega, by omega, ?_⟩⟩
  · rw [if_neg (by omega)] at hK; exact hK
  · rw [if_pos (by omega)] at hK; rw [List.drop_take, show k + 2 - k = 2 by omega]; exact hK

theorem batf (s : List UInt8) (k : Nat) : (s.getD k 0).toNat = bat s k := rfl
theorem twoL_eq (s : List UInt8) (k : Nat) (a b : UInt8) : decide (twoL s k = [a, b]) = pr s k a.toNat b.toNat := by
  unfold twoL pr bat
  apply Bool.eq_iff_iff.2
  simp only [decide_eq_true_eq, Bool.and_eq_true, beq_iff_eq, UInt8.toNat_inj]
  by_cases h : k + 2 ≤ s.length
  · rw [if_pos h]
    have h1 : s.drop k = s.getD k 0 :: s.getD (k + 1) 0 :: s.drop (k + 2) := by
      rw [List.drop_eq_getElem_cons (by omega), List.drop_eq_getElem_cons (by omega)]
      simp [List.getD_eq_getElem?_getD, List.getElem?_eq_getElem (show k < s.length by omega), List.getElem?_eq_getElem (show k + 1 < s.length by omega)]
    rw [h1]
    simp only [List.take_succ_cons, List.take_zero, List.cons.injEq, and_true]
    exact ⟨fun ⟨x, y⟩ => ⟨⟨by omega, x⟩, y⟩, fun ⟨⟨_, x⟩, y⟩ => ⟨x, y⟩⟩
  · rw [if_neg h]
    simp; omega
def comF (s : List UInt8) (k : Nat) : Int := if bat s k = 37 then (lineE s k : Nat) else match blk s 1 (k + 2) with | some j => (j : Nat) | none => -1
def C_rfComment (vs : List Value) (h : H) (K : Value → H → Prop) : Prop :=
  ∃ (s : List UInt8) (n : Int), vs = [str s, .int .i64 n] ∧ 0 ≤ n ∧ n < s.length ∧ s.length ≤ 65536 ∧ (bat s n.toNat ≠ 37 → pr s n.toNat 47 42 = true) ∧ K (.int .i64 (comF s n.toNat)) h
def G_rfComment : Ctr := fun f vs h K _ => f = 120 ∧ C_rfTwo vs h K
theorem G_rfComment_ok : GOk Tryd.prog G_rfComment := by
  rintro f vs h K KP ⟨rfl, hC⟩; exact rfTwo_ok hC
/-- From depth d on (0: ahead of the first). -/
def blk0 (s : List UInt8) (d k : Nat) : Option Nat := if d = 0 then (if pr s k 47 42 then blk s 1 (k + 2) else none) else blk s d k
theorem rfComment_ok {vs : List Value} {h : H} {K : Value → H → Prop} {KP : List PanicEntry → H → Prop} (hC : C_rfComment vs h K) : HCX Tryd.prog 122 vs h K KP := by
  obtain ⟨s, n, rfl, h0, h1, h2, hp, hK⟩ := hC
  obtain ⟨k, rfl⟩ := Int.eq_ofNat_of_zero_le h0
  simp only [Int.toNat_natCast] at hp hK
  refine rfComment_H _ G_rfComment_ok _ _ ?_
  simp (disch := first | omega | (simp only [e_ssz, e_psz, e_hszs, List.length_cons, List.length_nil]; try omega; done)) only [↓reduceIte, go_sem, rfComment_S, rfComment_E, batf]
  refine ⟨by omega, by omega, fun hc => ?_, fun hc => ?_⟩
  · -- a line comment
    have hc' : bat s k = 37 := by omega
    unfold comF at hK; rw [if_pos hc'] at hK
    refine wpS_loop (fun (j : Nat) σ h' => σ 0 = str s ∧ σ 1 = .int .i64 j ∧ h' = h ∧ j ≤ s.length ∧ lineE s j = lineE s k) (fun j => s.length - j) k ⟨by simp [upd], by simp [upd], rfl, by omega, rfl⟩ ?_
    rintro j σ h' ⟨e0, e1, rfl, hj, he⟩
    simp (disch := first | omega | (simp only [e_ssz, e_psz, e_hszs, List.length_cons, List.length_nil]; try omega; done)) only [↓reduceIte, go_sem, rfComment_L1, batf, e0, e1]
    refine ⟨fun hlt => by omega, fun ⟨hlt, hne⟩ => ⟨j + 1, by simp, by omega, ?_, by omega⟩, fun hx => ?_⟩
    · exact (lineE_step (by omega) (by omega)).symm.trans he
    · rw [← he, lineE_stop (by omega)] at hK; exact hK
  · -- a block comment
    have hc' : bat s k ≠ 37 := by omega
    have hp := hp hc'
    unfold comF at hK; rw [if_neg hc'] at hK
    refine wpS_loop (fun (x : Nat × Nat) σ h' => σ 0 = str s ∧ σ 1 = .int .i64 x.2 ∧ σ 5 = .int .i64 x.1 ∧ h' = h ∧ x.2 ≤ s.length ∧ (x.1 = 0 → pr s x.2 47 42 = true) ∧ x.1 ≤ x.2 ∧ blk0 s x.1 x.2 = blk s 1 (k + 2)) (fun x => s.length - x.2) (0, k)
      ⟨by simp [upd], by simp [upd], by simp [upd], rfl, by simp only; omega, fun _ => hp, by simp, by simp [blk0, hp]⟩ ?_
    rintro ⟨d, j⟩ σ h' ⟨e0, e1, e5, rfl, hj, hd, hdj, he⟩
    simp only at e1 e5 hj hd hdj he
    simp (disch := first | omega | (simp only [e_ssz, e_psz, e_hszs, List.length_cons, List.length_nil]; try omega; done)) only [↓reduceIte, go_sem, e_call, rfComment_L2, e0, e1, e5, G_rfComment, C_rfTwo]
    have t1 : twoL s j = [47, 42] ↔ pr s j 47 42 = true := by rw [← decide_eq_true_iff (p := twoL s j = [47, 42]), twoL_eq]; rfl
    have t2 : twoL s j = [42, 47] ↔ pr s j 42 47 = true := by rw [← decide_eq_true_iff (p := twoL s j = [42, 47]), twoL_eq]; rfl
    simp only [t1, t2]
    refine ⟨fun hlt => ⟨by omega, by omega, by omega, fun hp1 => ⟨fun _ => by omega, fun _ => ⟨(d + 1, j + 2), by simp, by simp, ?_, by simp, by simp only; omega, ?_, ?_⟩⟩,
      fun hp1 => ⟨fun hp2 => ⟨fun hz => ?_, fun hz => ⟨(d - 1, j + 2), by simp, ?_, ?_, ?_, by simp only; omega, ?_, ?_⟩⟩, fun hp2 => ⟨fun hz => ?_, fun hz => ⟨(d, j + 1), by simp, by simp, ?_, ?_, by simp only; omega, ?_, ?_⟩⟩⟩⟩, fun hge => ?_⟩
    · have := pr_lt hp1; simp only; omega
    · rw [← he]; unfold blk0
      by_cases hd0 : d = 0
      · subst hd0; simp [hp1]
      · simp only [Nat.add_eq_zero_iff, Nat.succ_ne_self, and_false, if_false, hd0]; exact (blk_up hp1).symm
    · simp only; omega
    · -- closed
      have hp1' : pr s j 47 42 = false := by simpa using hp1
      have hd1 : d = 1 := by omega
      subst hd1
      unfold blk0 at he; rw [if_neg (by omega), blk_down hp1' hp2, if_pos (by omega)] at he
      rw [← he] at hK; exact hK
    · have hd0 : d ≠ 0 := fun h => hp1 (hd h)
      simp only; omega
    · have := pr_lt hp2; simp only; omega
    · intro hf
      simp only at hf
      have hd0 : d ≠ 0 := fun h => hp1 (hd h)
      omega
    · have hp1' : pr s j 47 42 = false := by simpa using hp1
      have hd0 : d ≠ 0 := fun h => hp1 (hd h)
      rw [← he]; unfold blk0
      rw [if_neg hd0, if_neg (by omega), blk_down hp1' hp2, if_neg (by omega)]
    · simp only; omega
    · exact absurd (hd (by omega)) hp1
    · simp only; omega
    · intro hf; exact absurd (hd hf) hp1
    · have hp1' : pr s j 47 42 = false := by simpa using hp1
      have hp2' : pr s j 42 47 = false := by simpa using hp2
      have hd0 : d ≠ 0 := fun h => hp1 (hd h)
      rw [← he]; unfold blk0
      rw [if_neg hd0, if_neg hd0]; exact (blk_on (by omega) hp1' hp2').symm
    · simp only; omega
    · have hd0 : d ≠ 0 := fun h => by have := pr_lt (hd h); omega
      unfold blk0 at he; rw [if_neg hd0, blk_end (by omega)] at he
      rw [← he] at hK; exact hK

def okN (b : Bool) : Int := if b then 0 else 16
def C_rfGap (vs : List Value) (h : H) (K : Value → H → Prop) : Prop :=
  ∃ (s : List UInt8) (n : Int), vs = [str s, .int .i64 n] ∧ 0 ≤ n ∧ n ≤ s.length ∧ s.length ≤ 65536 ∧ K (.tuple #[.int .i64 (gapF s n.toNat).1, .int .i64 (okN (gapF s n.toNat).2)]) h
def G_rfGap : Ctr := fun f vs h K _ => (f = 120 ∧ C_rfTwo vs h K) ∨ (f = 121 ∧ C_rfBlankB vs h K) ∨ (f = 122 ∧ C_rfComment vs h K)
theorem G_rfGap_ok : GOk Tryd.prog G_rfGap := by
  rintro f vs h K KP (⟨rfl, hC⟩ | ⟨rfl, hC⟩ | ⟨rfl, hC⟩)
  · exact rfTwo_ok hC
  · exact rfBlankB_ok hC
  · exact rfComment_ok hC
theorem twoP (s : List UInt8) (j : Nat) (a b : UInt8) : (twoL s j = [a, b]) = (pr s j a.toNat b.toNat = true) := by
  rw [← decide_eq_true_iff (p := twoL s j = [a, b]), twoL_eq]
theorem rfGap_ok {vs : List Value} {h : H} {K : Value → H → Prop} {KP : List PanicEntry → H → Prop} (hC : C_rfGap vs h K) : HCX Tryd.prog 104 vs h K KP := by
  obtain ⟨s, n, rfl, h0, h1, h2, hK⟩ := hC
  obtain ⟨k, rfl⟩ := Int.eq_ofNat_of_zero_le h0
  simp only [Int.toNat_natCast] at hK
  refine rfGap_H _ G_rfGap_ok _ _ ?_
  simp (disch := first | omega | (simp only [e_ssz, e_psz, e_hszs, List.length_cons, List.length_nil]; try omega; done)) only [go_sem, rfGap_S, rfGap_E]
  refine wpS_loop (fun (j : Nat) σ h' => σ 0 = str s ∧ σ 1 = .int .i64 j ∧ h' = h ∧ j ≤ s.length ∧ gapF s j = gapF s k) (fun j => s.length - j) k ⟨by simp [upd], by simp [upd], rfl, by omega, rfl⟩ ?_
  rintro j σ h' ⟨e0, e1, rfl, hj, he⟩
  simp (disch := first | omega | (simp only [e_ssz, e_psz, e_hszs, List.length_cons, List.length_nil]; try omega; done)) only [↓reduceIte, go_sem, e_call, rfGap_L1, batf, e0, e1, G_rfGap, C_rfTwo, C_rfBlankB, C_rfComment]
  simp only [twoP, show (47 : UInt8).toNat = 47 from rfl, show (42 : UInt8).toNat = 42 from rfl]
  refine ⟨fun hlt => ⟨by omega, by omega, by omega, by omega, by omega, fun hb => ⟨j + 1, by simp, by omega, ?_, by omega⟩, fun hb => ⟨by omega, by omega, fun hn => ?_, fun hn => ⟨by omega, by omega, by omega, fun h37 => ?_, fun hneg => ?_, fun hpos => ?_⟩⟩⟩, fun hge => ?_⟩
  · exact (gap_bl (by omega) hb).symm.trans he
  · rw [gap_else hb (by omega) (by simpa using hn.2)] at he; rw [← he] at hK; exact hK
  · by_cases q : pr s j 47 42 = true
    · exact q
    · exact (hn ⟨by omega, q⟩).elim
  · have h37 : bat s j ≠ 37 := fun h37 => by unfold comF at hneg; rw [if_pos h37] at hneg; omega
    have hp : pr s j 47 42 = true := by
      by_cases q : pr s j 47 42 = true
      · exact q
      · exact (hn ⟨by omega, q⟩).elim
    cases hbk : blk s 1 (j + 2) with
    | none => rw [gap_none hp hbk] at he; rw [← he] at hK; exact hK
    | some x => unfold comF at hneg; rw [if_neg h37, hbk] at hneg; simp only at hneg; omega
  · by_cases h37 : bat s j = 37
    · have e1 : lineE s j = lineE s (j + 1) := lineE_step (by omega) (by omega)
      have g1 := lineE_ge s (j + 1)
      have g2 := lineE_le s (j + 1) (by omega)
      exact ⟨lineE s j, by unfold comF; rw [if_pos h37], by omega, by rw [e1]; exact (gap_line (by omega) h37).symm.trans he, by omega⟩
    · have hp : pr s j 47 42 = true := by
        by_cases q : pr s j 47 42 = true
        · exact q
        · exact (hn ⟨by omega, q⟩).elim
      cases hbk : blk s 1 (j + 2) with
      | none => unfold comF at hpos; rw [if_neg h37, hbk] at hpos; simp only at hpos; omega
      | some x =>
        have := blk_gt s _ _ _ hbk
        exact ⟨x, by unfold comF; rw [if_neg h37, hbk], by omega, (gap_some hp hbk).symm.trans he, by omega⟩
  · rw [gap_end (by omega)] at he; rw [← he] at hK; exact hK

def C_lxIsBlank (vs : List Value) (h : H) (K : Value → H → Prop) : Prop := ∃ c : Nat, vs = [.int .u8 c] ∧ K (.bool (isBl c)) h
theorem lxIsBlank_ok {vs : List Value} {h : H} {K : Value → H → Prop} {KP : List PanicEntry → H → Prop} (hC : C_lxIsBlank vs h K) : HCX Tryd.prog 132 vs h K KP := by
  obtain ⟨c, rfl, hK⟩ := hC
  refine lxIsBlank_H (fun _ _ _ _ _ => False) (fun _ _ _ _ _ h => h.elim) _ ?_
  simp (disch := first | omega | (simp only [e_ssz, e_psz, e_hszs, List.length_cons, List.length_nil]; try omega; done)) only [↓reduceIte, go_sem, lxIsBlank_S, lxIsBlank_E, isBl_eq]
  exact hK
def C_hasPrefix (vs : List Value) (h : H) (K : Value → H → Prop) : Prop := ∃ s t : List UInt8, vs = [str s, str t] ∧ s.length ≤ 9223372036854775807 ∧ t.length ≤ 9223372036854775807 ∧ K (.bool (t.isPrefixOf s)) h
theorem isPrefixOf_take (s t : List UInt8) : (decide (t.length ≤ s.length) && decide (s.take t.length = t)) = t.isPrefixOf s := by
  apply Bool.eq_iff_iff.2
  rw [List.isPrefixOf_iff_prefix, List.prefix_iff_eq_take]
  simp only [Bool.and_eq_true, decide_eq_true_eq]
  exact ⟨fun h => h.2.symm, fun h => ⟨by rw [h]; simp; omega, h.symm⟩⟩
theorem slHasPrefix_ok {vs : List Value} {h : H} {K : Value → H → Prop} {KP : List PanicEntry → H → Prop} (hC : C_hasPrefix vs h K) : HCX Tryd.prog 138 vs h K KP := by
  obtain ⟨s, t, rfl, h1, h2, hK⟩ := hC
  refine slHasPrefix_H (fun _ _ _ _ _ => False) (fun _ _ _ _ _ h => h.elim) _ _ ?_
  simp (disch := first | omega | (simp only [e_ssz, e_psz, e_hszs, List.length_cons, List.length_nil]; try omega; done)) only [↓reduceIte, go_sem, slHasPrefix_S, slHasPrefix_E]
  refine ⟨fun h => ⟨by omega, by omega⟩, ?_⟩
  rw [← isPrefixOf_take, ← decide_eq_decide.2 (Int.ofNat_le (m := t.length) (n := s.length))] at hK
  exact hK
def G_stHasPrefix : Ctr := fun f vs h K _ => f = 138 ∧ C_hasPrefix vs h K
theorem G_stHasPrefix_ok : GOk Tryd.prog G_stHasPrefix := by
  rintro f vs h K KP ⟨rfl, hC⟩; exact slHasPrefix_ok hC
theorem stHasPrefix_ok {vs : List Value} {h : H} {K : Value → H → Prop} {KP : List PanicEntry → H → Prop} (hC : C_hasPrefix vs h K) : HCX Tryd.prog 118 vs h K KP := by
  obtain ⟨s, t, rfl, h1, h2, hK⟩ := hC
  refine stHasPrefix_H _ G_stHasPrefix_ok _ _ ?_
  simp (disch := first | omega | (simp only [e_ssz, e_psz, e_hszs, List.length_cons, List.length_nil]; try omega; done)) only [↓reduceIte, go_sem, e_call, stHasPrefix_S, stHasPrefix_E, G_stHasPrefix, C_hasPrefix]
  exact ⟨h1, h2, hK⟩
theorem pre_pr (s : List UInt8) (k : Nat) (a b : UInt8) : List.isPrefixOf [a, b] (s.drop k) = pr s k a.toNat b.toNat := by
  rw [← twoL_eq]
  apply Bool.eq_iff_iff.2
  rw [List.isPrefixOf_iff_prefix, List.prefix_iff_eq_take, decide_eq_true_eq]
  unfold twoL
  by_cases h : k + 2 ≤ s.length
  · rw [if_pos h]; exact eq_comm
  · rw [if_neg h]
    refine ⟨fun e => ?_, fun e => by cases e⟩
    have := congrArg List.length e
    simp at this
    omega
/-- A reader of s at k: block B. -/
def Rd (h : H) (B : Nat) (s : List UInt8) (k : Nat) : Prop := hsz h B = 2 ∧ hfr h B = (0, 0) ∧ hv h B 0 = str s ∧ hv h B 1 = .int .i64 k ∧ k ≤ s.length ∧ s.length ≤ 65536
def C_lxGap (vs : List Value) (h : H) (K : Value → H → Prop) : Prop :=
  ∃ (B : Nat) (s : List UInt8) (k : Nat), vs = [.pointer (some ⟨B, 0, none⟩)] ∧ Rd h B s k ∧
    ∀ j : Nat, j ≤ s.length → ((gapF s k).2 = true → j = (gapF s k).1) → K (.tuple #[.int .i64 (gapF s k).1, .bool (gapF s k).2]) (hset h B 1 (.int .i64 j))
def G_lxGap : Ctr := fun f vs h K _ => (f = 118 ∧ C_hasPrefix vs h K) ∨ (f = 132 ∧ C_lxIsBlank vs h K)
theorem G_lxGap_ok : GOk Tryd.prog G_lxGap := by
  rintro f vs h K KP (⟨rfl, hC⟩ | ⟨rfl, hC⟩)
  · exact stHasPrefix_ok hC
  · exact lxIsBlank_ok hC
theorem lxGap_ok {vs : List Value} {h : H} {K : Value → H → Prop} {KP : List PanicEntry → H → Prop} (hC : C_lxGap vs h K) : HCX Tryd.prog 110 vs h K KP := by
  obtain ⟨B, s, k, rfl, ⟨hz, hf, hs, hk, hkl, hsl⟩, hK⟩ := hC
  refine lxGap_H _ G_lxGap_ok _ ?_
  simp (disch := first | omega | (simp only [e_ssz, e_psz, e_hszs, List.length_cons, List.length_nil]; try omega; done)) only [go_sem, lxGap_S, lxGap_E]
  refine wpS_loop (fun (j : Nat) σ h' => σ 0 = .pointer (some ⟨B, 0, none⟩) ∧ h' = hset h B 1 (.int .i64 j) ∧ j ≤ s.length ∧ gapF s j = gapF s k) (fun j => s.length - j) k ⟨by simp [upd], by rw [← hk, hset_self (by omega)], by omega, rfl⟩ ?_
  rintro j σ h' ⟨e0, rfl, hj, he⟩
  simp (disch := first | omega | (simp only [e_ssz, e_psz, e_hszs, List.length_cons, List.length_nil]; try omega; done)) only [↓reduceIte, go_sem, e_call, lxGap_L1, batf, e0, hs, hz, hf, e_hvs, G_lxGap, C_hasPrefix, C_lxIsBlank, pre_pr]
  simp only [show (47 : UInt8).toNat = 47 from rfl, show (42 : UInt8).toNat = 42 from rfl]
  refine ⟨fun hlt => ⟨by omega, by omega, fun hb => ⟨j + 1, by simp, by omega, (gap_bl (by omega) hb).symm.trans he, by omega⟩, fun hb => ⟨by omega, by omega, fun h37 => ?_, fun h37 => ⟨by omega, by omega, by simp; omega, fun hp => ?_, fun hp => ?_⟩⟩⟩, fun hge => ?_⟩
  · have h37' : bat s j = 37 := by omega
    have g1 := lineE_ge s (j + 1)
    have g2 := lineE_le s (j + 1) (by omega)
    have e1 : lineE s j = lineE s (j + 1) := lineE_step (by omega) (by omega)
    refine wpS_loop (fun (i : Nat) σ h' => σ 0 = .pointer (some ⟨B, 0, none⟩) ∧ h' = hset h B 1 (.int .i64 i) ∧ j ≤ i ∧ i ≤ s.length ∧ lineE s i = lineE s j) (fun i => s.length - i) j ⟨by simp [upd, e0], rfl, by omega, hj, rfl⟩ ?_
    rintro i σ h' ⟨e0, rfl, hji, hi, hli⟩
    simp (disch := first | omega | (simp only [e_ssz, e_psz, e_hszs, List.length_cons, List.length_nil]; try omega; done)) only [↓reduceIte, go_sem, lxGap_L2, batf, e0, hs, hz, hf, e_hvs]
    refine ⟨fun hlt => by omega, fun ⟨hlt, hne⟩ => ⟨i + 1, by simp, by omega, by omega, (lineE_step (by omega) (by omega)).symm.trans hli, by omega⟩, fun hx => ⟨i, rfl, hi, ?_, ?_⟩⟩
    · rw [lineE_stop (by omega)] at hli
      rw [hli, e1]; exact (gap_line (by omega) h37').symm.trans he
    · rw [lineE_stop (by omega)] at hli
      omega
  · have hpl := pr_lt hp
    refine wpS_loop (fun (x : Nat × Nat) σ h' => σ 0 = .pointer (some ⟨B, 0, none⟩) ∧ σ 4 = .int .i64 j ∧ σ 5 = .int .i64 x.1 ∧ h' = hset h B 1 (.int .i64 x.2) ∧ j < x.2 ∧ x.2 ≤ s.length ∧ 1 ≤ x.1 ∧ x.1 ≤ x.2 ∧ blk s x.1 x.2 = blk s 1 (j + 2)) (fun x => s.length - x.2) (1, j + 2)
      ⟨by simp [upd, e0], by simp [upd], by simp [upd], by simp, by simp only; omega, by simp only; omega, by simp, by simp, rfl⟩ ?_
    rintro ⟨d, i⟩ σ h' ⟨e0, e4, e5, rfl, hji, hi, hd, hdi, hbe⟩
    simp only at e5 hji hi hd hdi hbe
    simp (disch := first | omega | (simp only [e_ssz, e_psz, e_hszs, List.length_cons, List.length_nil]; try omega; done)) only [↓reduceIte, go_sem, e_call, lxGap_L3, e0, e4, e5, hs, hz, hf, e_hvs, G_lxGap, C_hasPrefix, C_lxIsBlank, pre_pr]
    simp only [show (47 : UInt8).toNat = 47 from rfl, show (42 : UInt8).toNat = 42 from rfl]
    refine ⟨fun hlt => ⟨by omega, by omega, by simp; omega, fun h1 => ⟨(d + 1, i + 2), by simp, by simp, by simp only; omega, ?_, by simp, by simp only; omega, (blk_up h1).symm.trans hbe, ?_⟩,
      fun h1 => ⟨by omega, by omega, by simp; omega, fun h2 => ⟨fun hz => ⟨i + 2, by simp, ?_, ?_, ?_⟩, fun hz => ⟨(d - 1, i + 2), ?_, by simp, by simp only; omega, ?_, ?_, by simp only; omega, ?_, ?_⟩⟩, fun h2 => ⟨(d, i + 1), rfl, by simp, by simp only; omega, by simp only; omega, hd, by simp only; omega, (blk_on (by omega) h1 h2).symm.trans hbe, by simp only; omega⟩⟩⟩, fun hge => ?_⟩
    · have := pr_lt h1; simp only; omega
    · have := pr_lt h1; simp only; omega
    · have := pr_lt h2; omega
    · rw [blk_down h1 h2, if_pos (by omega)] at hbe
      exact (gap_some hp hbe.symm).symm.trans he
    · have := pr_lt h2; omega
    · simp only; omega
    · have := pr_lt h2; simp only; omega
    · simp only; omega
    · rw [blk_down h1 h2, if_neg (by omega)] at hbe; exact hbe
    · have := pr_lt h2; simp only; omega
    · rw [blk_end (by omega)] at hbe
      rw [← he, gap_none hp hbe.symm] at hK
      exact hK i hi (fun hx => by cases hx)
  · have := gap_else hb (by omega) hp
    rw [← he, this] at hK
    exact hK j hj (fun _ => rfl)
  · have := gap_end (s := s) (k := j) (by omega)
    rw [← he, this] at hK
    exact hK j hj (fun _ => rfl)

end Go.Proofs.YtmnfhmbmifompaaDoor
