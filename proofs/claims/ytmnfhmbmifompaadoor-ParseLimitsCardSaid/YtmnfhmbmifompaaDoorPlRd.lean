/- The law ParseLimits. -/
import Derived.Test.YtmnfhmbmifompaaDoorPlR
import Derived.Test.YtmnfhmbmifompaaDoorPlQ
import Derived.Test.YtmnfhmbmifompaaDoorPqK
import Derived.Test.YtmnfhmbmifompaaDoorPlU2
namespace Go.Proofs.YtmnfhmbmifompaaDoor
open Go Go.Ev Edict
def C_limit (vs : List Value) (h : H) (K : Value → H → Prop) : Prop := ∃ (k n : Nat) (bad : Bool), vs = [.int .i64 k, .int .i64 n, .bool bad] ∧ k < 6 ∧ (1 ≤ n ∧ n ≤ 5000) ∧ K (.tuple #[str (limT k n bad), .int .i64 (limM k : Nat), .int .i64 (limB k : Nat), .int .i64 (limC k)]) h
def G_limit : Ctr := fun f vs h K _ => f = 47 ∧ C_times vs h K
theorem G_limit_ok : GOk Tryd.prog G_limit := by
  rintro f vs h K KP ⟨rfl, hC⟩; exact plTimes_ok hC
theorem plLimit_ok {vs : List Value} {h : H} {K : Value → H → Prop} {KP : List PanicEntry → H → Prop} (hC : C_limit vs h K) : HCX Tryd.prog 46 vs h K KP := by
  obtain ⟨k, n, bad, rfl, hk, ⟨hn1, hn2⟩, hK⟩ := hC
  refine plLimit_H G_limit G_limit_ok _ _ _ ?_
  have hw : IntKind.i64.wrap ((n : Nat) - 1 : Int) = ((n - 1 : Nat) : Int) := by rw [wr64 (by omega) (by omega)]; omega
  obtain q | q | q | q | q | q : k = 0 ∨ k = 1 ∨ k = 2 ∨ k = 3 ∨ k = 4 ∨ k = 5 := by omega
  · have e1 : limM k = 512 := by rw [q]; rfl
    have e2 : limB k = 0 := by rw [q]; rfl
    have e3 : limC k = 24 := by rw [q]; rfl
    have hlen := repF_len [112, 46] (n - 1)
    simp only [List.length_cons, List.length_nil] at hlen
    cases bad with
    | false =>
      have hT : ∀ X, X = repF [112, 46] (n - 1) → X ++ [112, 46] = limT k n false := by intro X hX; rw [q, hX]; simp [limT]
      obtain ⟨X, hX⟩ : ∃ X, X = repF [112, 46] (n - 1) := ⟨_, rfl⟩
      rw [← hT X hX, e1, e2, e3] at hK
      rw [← hX] at hlen
      simp (disch := first | omega | (simp only [e_ssz, e_psz, e_hszs, List.length_cons, List.length_nil]; try omega; done)) only [↓reduceIte, go_sem, plLimit_S, plLimit_E, hw, eq_true (show ((k : Nat) : Int) = 0 by omega)]
      refine effS_call ⟨rfl, [112, 46], ((n - 1 : Nat) : Int), rfl, by omega, by decide, by simp (disch := first | omega | (simp only [e_ssz, e_psz, e_hszs, List.length_cons, List.length_nil]; try omega; done)) only [go_sem], ?_⟩
      rw [Int.toNat_natCast, ← hX]
      simp (disch := first | omega | (simp only [e_ssz, e_psz, e_hszs, List.length_cons, List.length_nil]; try omega; done)) only [↓reduceIte, go_sem, eq_true (show ((k : Nat) : Int) = 0 by omega)]
      exact ⟨by omega, hK⟩
    | true =>
      have hT : ∀ X, X = repF [112, 46] (n - 1) → X ++ [41, 46] = limT k n true := by intro X hX; rw [q, hX]; simp [limT]
      obtain ⟨X, hX⟩ : ∃ X, X = repF [112, 46] (n - 1) := ⟨_, rfl⟩
      rw [← hT X hX, e1, e2, e3] at hK
      rw [← hX] at hlen
      simp (disch := first | omega | (simp only [e_ssz, e_psz, e_hszs, List.length_cons, List.length_nil]; try omega; done)) only [↓reduceIte, go_sem, plLimit_S, plLimit_E, hw, eq_true (show ((k : Nat) : Int) = 0 by omega)]
      refine effS_call ⟨rfl, [112, 46], ((n - 1 : Nat) : Int), rfl, by omega, by decide, by simp (disch := first | omega | (simp only [e_ssz, e_psz, e_hszs, List.length_cons, List.length_nil]; try omega; done)) only [go_sem], ?_⟩
      rw [Int.toNat_natCast, ← hX]
      simp (disch := first | omega | (simp only [e_ssz, e_psz, e_hszs, List.length_cons, List.length_nil]; try omega; done)) only [↓reduceIte, go_sem, hw]
      refine ⟨by omega, ?_⟩
      refine effS_call ⟨rfl, [112, 46], ((n - 1 : Nat) : Int), rfl, by omega, by decide, by simp (disch := first | omega | (simp only [e_ssz, e_psz, e_hszs, List.length_cons, List.length_nil]; try omega; done)) only [go_sem], ?_⟩
      rw [Int.toNat_natCast, ← hX]
      simp (disch := first | omega | (simp only [e_ssz, e_psz, e_hszs, List.length_cons, List.length_nil]; try omega; done)) only [↓reduceIte, go_sem, eq_true (show ((k : Nat) : Int) = 0 by omega)]
      exact ⟨by omega, hK⟩
  · have e1 : limM k = 4096 := by rw [q]; rfl
    have e2 : limB k = 0 := by rw [q]; rfl
    have e3 : limC k = 24 := by rw [q]; rfl
    have hlen := repF_len [112, 46] (n - 1)
    simp only [List.length_cons, List.length_nil] at hlen
    cases bad with
    | false =>
      have hT : ∀ X, X = repF [112, 46] (n - 1) → X ++ [112, 46] = limT k n false := by intro X hX; rw [q, hX]; simp [limT]
      obtain ⟨X, hX⟩ : ∃ X, X = repF [112, 46] (n - 1) := ⟨_, rfl⟩
      rw [← hT X hX, e1, e2, e3] at hK
      rw [← hX] at hlen
      simp (disch := first | omega | (simp only [e_ssz, e_psz, e_hszs, List.length_cons, List.length_nil]; try omega; done)) only [↓reduceIte, go_sem, plLimit_S, plLimit_E, hw, eq_false (show ¬ ((k : Nat) : Int) = 0 by omega), eq_true (show ((k : Nat) : Int) = 1 by omega)]
      refine effS_call ⟨rfl, [112, 46], ((n - 1 : Nat) : Int), rfl, by omega, by decide, by simp (disch := first | omega | (simp only [e_ssz, e_psz, e_hszs, List.length_cons, List.length_nil]; try omega; done)) only [go_sem], ?_⟩
      rw [Int.toNat_natCast, ← hX]
      simp (disch := first | omega | (simp only [e_ssz, e_psz, e_hszs, List.length_cons, List.length_nil]; try omega; done)) only [↓reduceIte, go_sem, eq_false (show ¬ ((k : Nat) : Int) = 0 by omega)]
      exact ⟨by omega, hK⟩
    | true =>
      have hT : ∀ X, X = repF [112, 46] (n - 1) → X ++ [41, 46] = limT k n true := by intro X hX; rw [q, hX]; simp [limT]
      obtain ⟨X, hX⟩ : ∃ X, X = repF [112, 46] (n - 1) := ⟨_, rfl⟩
      rw [← hT X hX, e1, e2, e3] at hK
      rw [← hX] at hlen
      simp (disch := first | omega | (simp only [e_ssz, e_psz, e_hszs, List.length_cons, List.length_nil]; try omega; done)) only [↓reduceIte, go_sem, plLimit_S, plLimit_E, hw, eq_false (show ¬ ((k : Nat) : Int) = 0 by omega), eq_true (show ((k : Nat) : Int) = 1 by omega)]
      refine effS_call ⟨rfl, [112, 46], ((n - 1 : Nat) : Int), rfl, by omega, by decide, by simp (disch := first | omega | (simp only [e_ssz, e_psz, e_hszs, List.length_cons, List.length_nil]; try omega; done)) only [go_sem], ?_⟩
      rw [Int.toNat_natCast, ← hX]
      simp (disch := first | omega | (simp only [e_ssz, e_psz, e_hszs, List.length_cons, List.length_nil]; try omega; done)) only [↓reduceIte, go_sem, hw]
      refine ⟨by omega, ?_⟩
      refine effS_call ⟨rfl, [112, 46], ((n - 1 : Nat) : Int), rfl, by omega, by decide, by simp (disch := first | omega | (simp only [e_ssz, e_psz, e_hszs, List.length_cons, List.length_nil]; try omega; done)) only [go_sem], ?_⟩
      rw [Int.toNat_natCast, ← hX]
      simp (disch := first | omega | (simp only [e_ssz, e_psz, e_hszs, List.length_cons, List.length_nil]; try omega; done)) only [↓reduceIte, go_sem, eq_false (show ¬ ((k : Nat) : Int) = 0 by omega)]
      exact ⟨by omega, hK⟩
  · have e1 : limM k = 16 := by rw [q]; rfl
    have e2 : limB k = 3 := by rw [q]; rfl
    have e3 : limC k = 23 := by rw [q]; rfl
    have hlen := repF_len [49, 61, 49, 44] (n - 1)
    simp only [List.length_cons, List.length_nil] at hlen
    cases bad with
    | false =>
      have hT : ∀ X, X = repF [49, 61, 49, 44] (n - 1) → [104, 58, 45] ++ X ++ [49] ++ [61, 49, 46] = limT k n false := by intro X hX; rw [q, hX]; simp [limT]
      obtain ⟨X, hX⟩ : ∃ X, X = repF [49, 61, 49, 44] (n - 1) := ⟨_, rfl⟩
      rw [← hT X hX, e1, e2, e3] at hK
      rw [← hX] at hlen
      simp (disch := first | omega | (simp only [e_ssz, e_psz, e_hszs, List.length_cons, List.length_nil]; try omega; done)) only [↓reduceIte, go_sem, plLimit_S, plLimit_E, hw, eq_false (show ¬ ((k : Nat) : Int) = 0 by omega), eq_false (show ¬ ((k : Nat) : Int) = 1 by omega), eq_true (show ((k : Nat) : Int) = 2 by omega)]
      refine effS_call ⟨rfl, [49, 61, 49, 44], ((n - 1 : Nat) : Int), rfl, by omega, by decide, by simp (disch := first | omega | (simp only [e_ssz, e_psz, e_hszs, List.length_cons, List.length_nil]; try omega; done)) only [go_sem], ?_⟩
      rw [Int.toNat_natCast, ← hX]
      simp (disch := first | omega | (simp only [e_ssz, e_psz, e_hszs, List.length_cons, List.length_nil]; try omega; done)) only [↓reduceIte, go_sem]
      exact ⟨by omega, by omega, by omega, hK⟩
    | true =>
      have hT : ∀ X, X = repF [49, 61, 49, 44] (n - 1) → [104, 58, 45] ++ X ++ [41] ++ [61, 49, 46] = limT k n true := by intro X hX; rw [q, hX]; simp [limT]
      obtain ⟨X, hX⟩ : ∃ X, X = repF [49, 61, 49, 44] (n - 1) := ⟨_, rfl⟩
      rw [← hT X hX, e1, e2, e3] at hK
      rw [← hX] at hlen
      simp (disch := first | omega | (simp only [e_ssz, e_psz, e_hszs, List.length_cons, List.length_nil]; try omega; done)) only [↓reduceIte, go_sem, plLimit_S, plLimit_E, hw, eq_false (show ¬ ((k : Nat) : Int) = 0 by omega), eq_false (show ¬ ((k : Nat) : Int) = 1 by omega), eq_true (show ((k : Nat) : Int) = 2 by omega)]
      refine effS_call ⟨rfl, [49, 61, 49, 44], ((n - 1 : Nat) : Int), rfl, by omega, by decide, by simp (disch := first | omega | (simp only [e_ssz, e_psz, e_hszs, List.length_cons, List.length_nil]; try omega; done)) only [go_sem], ?_⟩
      rw [Int.toNat_natCast, ← hX]
      simp (disch := first | omega | (simp only [e_ssz, e_psz, e_hszs, List.length_cons, List.length_nil]; try omega; done)) only [↓reduceIte, go_sem]
      exact ⟨by omega, by omega, by omega, hK⟩
  · have e1 : limM k = 16 := by rw [q]; rfl
    have e2 : limB k = 0 := by rw [q]; rfl
    have e3 : limC k = 23 := by rw [q]; rfl
    have hlen := repF_len [49, 61, 49, 44] (n - 1)
    simp only [List.length_cons, List.length_nil] at hlen
    cases bad with
    | false =>
      have hT : ∀ X, X = repF [49, 61, 49, 44] (n - 1) → X ++ [49] ++ [61, 49, 46] = limT k n false := by intro X hX; rw [q, hX]; simp [limT]
      obtain ⟨X, hX⟩ : ∃ X, X = repF [49, 61, 49, 44] (n - 1) := ⟨_, rfl⟩
      rw [← hT X hX, e1, e2, e3] at hK
      rw [← hX] at hlen
      simp (disch := first | omega | (simp only [e_ssz, e_psz, e_hszs, List.length_cons, List.length_nil]; try omega; done)) only [↓reduceIte, go_sem, plLimit_S, plLimit_E, hw, eq_false (show ¬ ((k : Nat) : Int) = 0 by omega), eq_false (show ¬ ((k : Nat) : Int) = 1 by omega), eq_false (show ¬ ((k : Nat) : Int) = 2 by omega), eq_true (show ((k : Nat) : Int) = 3 by omega)]
      refine effS_call ⟨rfl, [49, 61, 49, 44], ((n - 1 : Nat) : Int), rfl, by omega, by decide, by simp (disch := first | omega | (simp only [e_ssz, e_psz, e_hszs, List.length_cons, List.length_nil]; try omega; done)) only [go_sem], ?_⟩
      rw [Int.toNat_natCast, ← hX]
      simp (disch := first | omega | (simp only [e_ssz, e_psz, e_hszs, List.length_cons, List.length_nil]; try omega; done)) only [↓reduceIte, go_sem]
      exact ⟨by omega, by omega, hK⟩
    | true =>
      have hT : ∀ X, X = repF [49, 61, 49, 44] (n - 1) → X ++ [41] ++ [61, 49, 46] = limT k n true := by intro X hX; rw [q, hX]; simp [limT]
      obtain ⟨X, hX⟩ : ∃ X, X = repF [49, 61, 49, 44] (n - 1) := ⟨_, rfl⟩
      rw [← hT X hX, e1, e2, e3] at hK
      rw [← hX] at hlen
      simp (disch := first | omega | (simp only [e_ssz, e_psz, e_hszs, List.length_cons, List.length_nil]; try omega; done)) only [↓reduceIte, go_sem, plLimit_S, plLimit_E, hw, eq_false (show ¬ ((k : Nat) : Int) = 0 by omega), eq_false (show ¬ ((k : Nat) : Int) = 1 by omega), eq_false (show ¬ ((k : Nat) : Int) = 2 by omega), eq_true (show ((k : Nat) : Int) = 3 by omega)]
      refine effS_call ⟨rfl, [49, 61, 49, 44], ((n - 1 : Nat) : Int), rfl, by omega, by decide, by simp (disch := first | omega | (simp only [e_ssz, e_psz, e_hszs, List.length_cons, List.length_nil]; try omega; done)) only [go_sem], ?_⟩
      rw [Int.toNat_natCast, ← hX]
      simp (disch := first | omega | (simp only [e_ssz, e_psz, e_hszs, List.length_cons, List.length_nil]; try omega; done)) only [↓reduceIte, go_sem]
      exact ⟨by omega, by omega, hK⟩
  · have e1 : limM k = 8 := by rw [q]; rfl
    have e2 : limB k = 2 := by rw [q]; rfl
    have e3 : limC k = 22 := by rw [q]; rfl
    have hlen := repF_len [49, 44] (n - 1)
    simp only [List.length_cons, List.length_nil] at hlen
    cases bad with
    | false =>
      have hT : ∀ X, X = repF [49, 44] (n - 1) → [112, 40] ++ X ++ [49] ++ [41, 46] = limT k n false := by intro X hX; rw [q, hX]; simp [limT]
      obtain ⟨X, hX⟩ : ∃ X, X = repF [49, 44] (n - 1) := ⟨_, rfl⟩
      rw [← hT X hX, e1, e2, e3] at hK
      rw [← hX] at hlen
      simp (disch := first | omega | (simp only [e_ssz, e_psz, e_hszs, List.length_cons, List.length_nil]; try omega; done)) only [↓reduceIte, go_sem, plLimit_S, plLimit_E, hw, eq_false (show ¬ ((k : Nat) : Int) = 0 by omega), eq_false (show ¬ ((k : Nat) : Int) = 1 by omega), eq_false (show ¬ ((k : Nat) : Int) = 2 by omega), eq_false (show ¬ ((k : Nat) : Int) = 3 by omega), eq_true (show ((k : Nat) : Int) = 4 by omega)]
      refine effS_call ⟨rfl, [49, 44], ((n - 1 : Nat) : Int), rfl, by omega, by decide, by simp (disch := first | omega | (simp only [e_ssz, e_psz, e_hszs, List.length_cons, List.length_nil]; try omega; done)) only [go_sem], ?_⟩
      rw [Int.toNat_natCast, ← hX]
      simp (disch := first | omega | (simp only [e_ssz, e_psz, e_hszs, List.length_cons, List.length_nil]; try omega; done)) only [↓reduceIte, go_sem]
      exact ⟨by omega, by omega, by omega, hK⟩
    | true =>
      have hT : ∀ X, X = repF [49, 44] (n - 1) → [112, 40] ++ X ++ [41] ++ [41, 46] = limT k n true := by intro X hX; rw [q, hX]; simp [limT]
      obtain ⟨X, hX⟩ : ∃ X, X = repF [49, 44] (n - 1) := ⟨_, rfl⟩
      rw [← hT X hX, e1, e2, e3] at hK
      rw [← hX] at hlen
      simp (disch := first | omega | (simp only [e_ssz, e_psz, e_hszs, List.length_cons, List.length_nil]; try omega; done)) only [↓reduceIte, go_sem, plLimit_S, plLimit_E, hw, eq_false (show ¬ ((k : Nat) : Int) = 0 by omega), eq_false (show ¬ ((k : Nat) : Int) = 1 by omega), eq_false (show ¬ ((k : Nat) : Int) = 2 by omega), eq_false (show ¬ ((k : Nat) : Int) = 3 by omega), eq_true (show ((k : Nat) : Int) = 4 by omega)]
      refine effS_call ⟨rfl, [49, 44], ((n - 1 : Nat) : Int), rfl, by omega, by decide, by simp (disch := first | omega | (simp only [e_ssz, e_psz, e_hszs, List.length_cons, List.length_nil]; try omega; done)) only [go_sem], ?_⟩
      rw [Int.toNat_natCast, ← hX]
      simp (disch := first | omega | (simp only [e_ssz, e_psz, e_hszs, List.length_cons, List.length_nil]; try omega; done)) only [↓reduceIte, go_sem]
      exact ⟨by omega, by omega, by omega, hK⟩
  · have e1 : limM k = 8 := by rw [q]; rfl
    have e2 : limB k = 2 := by rw [q]; rfl
    have e3 : limC k = 22 := by rw [q]; rfl
    have hlen := repF_len [49, 44] (n - 1)
    simp only [List.length_cons, List.length_nil] at hlen
    cases bad with
    | false =>
      have hT : ∀ X, X = repF [49, 44] (n - 1) → [112, 40] ++ X ++ [49] ++ [41] = limT k n false := by intro X hX; rw [q, hX]; simp [limT]
      obtain ⟨X, hX⟩ : ∃ X, X = repF [49, 44] (n - 1) := ⟨_, rfl⟩
      rw [← hT X hX, e1, e2, e3] at hK
      rw [← hX] at hlen
      simp (disch := first | omega | (simp only [e_ssz, e_psz, e_hszs, List.length_cons, List.length_nil]; try omega; done)) only [↓reduceIte, go_sem, plLimit_S, plLimit_E, hw, eq_false (show ¬ ((k : Nat) : Int) = 0 by omega), eq_false (show ¬ ((k : Nat) : Int) = 1 by omega), eq_false (show ¬ ((k : Nat) : Int) = 2 by omega), eq_false (show ¬ ((k : Nat) : Int) = 3 by omega), eq_false (show ¬ ((k : Nat) : Int) = 4 by omega)]
      refine effS_call ⟨rfl, [49, 44], ((n - 1 : Nat) : Int), rfl, by omega, by decide, by simp (disch := first | omega | (simp only [e_ssz, e_psz, e_hszs, List.length_cons, List.length_nil]; try omega; done)) only [go_sem], ?_⟩
      rw [Int.toNat_natCast, ← hX]
      simp (disch := first | omega | (simp only [e_ssz, e_psz, e_hszs, List.length_cons, List.length_nil]; try omega; done)) only [↓reduceIte, go_sem]
      exact ⟨by omega, by omega, by omega, hK⟩
    | true =>
      have hT : ∀ X, X = repF [49, 44] (n - 1) → [112, 40] ++ X ++ [41] ++ [41] = limT k n true := by intro X hX; rw [q, hX]; simp [limT]
      obtain ⟨X, hX⟩ : ∃ X, X = repF [49, 44] (n - 1) := ⟨_, rfl⟩
      rw [← hT X hX, e1, e2, e3] at hK
      rw [← hX] at hlen
      simp (disch := first | omega | (simp only [e_ssz, e_psz, e_hszs, List.length_cons, List.length_nil]; try omega; done)) only [↓reduceIte, go_sem, plLimit_S, plLimit_E, hw, eq_false (show ¬ ((k : Nat) : Int) = 0 by omega), eq_false (show ¬ ((k : Nat) : Int) = 1 by omega), eq_false (show ¬ ((k : Nat) : Int) = 2 by omega), eq_false (show ¬ ((k : Nat) : Int) = 3 by omega), eq_false (show ¬ ((k : Nat) : Int) = 4 by omega)]
      refine effS_call ⟨rfl, [49, 44], ((n - 1 : Nat) : Int), rfl, by omega, by decide, by simp (disch := first | omega | (simp only [e_ssz, e_psz, e_hszs, List.length_cons, List.length_nil]; try omega; done)) only [go_sem], ?_⟩
      rw [Int.toNat_natCast, ← hX]
      simp (disch := first | omega | (simp only [e_ssz, e_psz, e_hszs, List.length_cons, List.length_nil]; try omega; done)) only [↓reduceIte, go_sem]
      exact ⟨by omega, by omega, by omega, hK⟩
theorem limT_len {k n : Nat} (hn : n ≤ 5000) (bad : Bool) : (limT k n bad).length ≤ 30000 := by
  have h1 := repF_len [112, 46] (n - 1)
  have h2 := repF_len [49, 61, 49, 44] (n - 1)
  have h3 := repF_len [49, 44] (n - 1)
  simp only [List.length_cons, List.length_nil] at h1 h2 h3
  unfold limT
  repeat' split
  all_goals (simp only [List.length_append, List.length_cons, List.length_nil, h1, h2, h3]; omega)
def C_law3 (vs : List Value) (h : H) (K : Value → H → Prop) : Prop := ∃ (u : U) (kd n : Int) (bad : Bool), vs = [.int .i64 kd, .int .i64 n, .bool bad] ∧ LxG u h ∧ ∀ u' h', Step S0 u h u' h' → K (.bool true) h'
def G_LmtL : Ctr := fun f vs h K _ => (f = 45 ∧ C_mod vs h K) ∨ (f = 46 ∧ C_limit vs h K) ∨ (f = 43 ∧ C_faultOf vs h K)
theorem G_LmtL_ok : GOk Tryd.prog G_LmtL := by
  rintro f vs h K KP (⟨rfl, hC⟩ | ⟨rfl, hC⟩ | ⟨rfl, hC⟩)
  · exact plMod_ok hC
  · exact plLimit_ok hC
  · exact plFaultOf_ok hC
def lmtT : S := sS (sS (sS (sS (sS ParseLimits_S))))
theorem lmt_cut : ParseLimits_S = .seq (sF ParseLimits_S) (.seq (sF (sS ParseLimits_S)) (.seq (sF (sS (sS ParseLimits_S))) (.seq (sF (sS (sS (sS ParseLimits_S)))) (.seq (sF (sS (sS (sS (sS ParseLimits_S))))) lmtT)))) := rfl
theorem ParseLimits_ok {vs : List Value} {h : H} {K : Value → H → Prop} {KP : List PanicEntry → H → Prop} (hC : C_law3 vs h K) : HCX Tryd.prog 16 vs h K KP := by
  obtain ⟨u, kd, n, bad, rfl, hG, hK⟩ := hC
  refine ParseLimits_H G_LmtL G_LmtL_ok _ _ _ ?_
  rw [lmt_cut]
  obtain ⟨k, hk⟩ : ∃ k : Nat, kd % 6 = k := ⟨(kd % 6).toNat, by omega⟩
  have hk6 : k < 6 := by omega
  have tl : ∀ (σ : Env) (m : Nat), σ 1 = .int .i64 ((m : Nat) : Int) → σ 2 = .bool bad → σ 7 = .int .i64 ((k : Nat) : Int) → σ 8 = .int .i64 ((limZ k : Nat) : Int) → σ 9 = .int .i64 ((limR k : Nat) : Int) → 1 ≤ m → m ≤ 5000 → wpS G_LmtL lmtT (retQ ParseLimits_E (callK K KP)) σ h := by
    intro σ m e1 e2 e7 e8 e9 hm1 hm2
    have hrd : limR k < 4 := by unfold limR; repeat' split
                                all_goals decide
    have hM : limM k ≤ 4096 := by unfold limM; repeat' split
                                  all_goals decide
    have hB : limB k ≤ 3 := by unfold limB; repeat' split
                               all_goals decide
    have hZ : limZ k ≤ 4 := by unfold limZ; repeat' split
                               all_goals decide
    have hF := lim_all hk6 hm1 hm2 bad
    have hlen := @limT_len k m hm2 bad
    simp (disch := first | omega | (simp only [e_ssz, e_psz, e_hszs, List.length_cons, List.length_nil]; try omega; done)) only [go_sem, lmtT, sS, ParseLimits_S, ParseLimits_E, e1, e2, e7]
    refine effS_call (.inr (.inl ⟨rfl, k, m, bad, rfl, hk6, ⟨hm1, hm2⟩, by simp (disch := first | omega | (simp only [e_ssz, e_psz, e_hszs, List.length_cons, List.length_nil]; try omega; done)) only [go_sem], ?_⟩))
    obtain ⟨T, hT⟩ : ∃ T, T = limT k m bad := ⟨_, rfl⟩
    obtain ⟨M, hMe⟩ : ∃ M, M = limM k := ⟨_, rfl⟩
    obtain ⟨B, hBe⟩ : ∃ B, B = limB k := ⟨_, rfl⟩
    obtain ⟨Z, hZe⟩ : ∃ Z, Z = limZ k := ⟨_, rfl⟩
    obtain ⟨R, hRe⟩ : ∃ R, R = limR k := ⟨_, rfl⟩
    obtain ⟨C, hCe⟩ : ∃ C, C = limC k := ⟨_, rfl⟩
    rw [← hT] at hF hlen
    rw [← hMe] at hF hM
    rw [← hBe] at hF hB
    rw [← hZe] at hF hZ e8
    rw [← hRe] at hF hrd e9
    rw [← hCe] at hF
    rw [← hT, ← hMe, ← hBe, ← hCe]
    simp (disch := first | omega | (simp only [e_ssz, e_psz, e_hszs, List.length_cons, List.length_nil]; try omega; done)) only [↓reduceIte, go_sem, e9]
    refine effS_call (.inr (.inr ⟨rfl, u, R, T, rfl, hrd, by omega, hG, fun u3 h3 s3 => ⟨by simp (disch := first | omega | (simp only [e_ssz, e_psz, e_hszs, List.length_cons, List.length_nil]; try omega; done)) only [go_sem], ?_⟩⟩))
    have hZM : Z * M ≤ 4 * 4096 := Nat.mul_le_mul hZ hM
    have hZn : Z * (m - 1) ≤ 4 * 5000 := Nat.mul_le_mul hZ (by omega)
    have w1 : IntKind.i64.wrap ((M : Nat) + 1 : Int) = ((M + 1 : Nat) : Int) := by rw [wr64 (by omega) (by omega)]; rfl
    have w2 : IntKind.i64.wrap ((Z : Nat) * (M : Nat) : Int) = ((Z * M : Nat) : Int) := by rw [← Int.natCast_mul, wr64 (by omega) (by omega)]
    have w3 : IntKind.i64.wrap ((B : Nat) + ((Z * M : Nat) : Int)) = ((B + Z * M : Nat) : Int) := by rw [wr64 (by omega) (by omega)]; rfl
    have w4 : IntKind.i64.wrap ((m : Nat) - 1 : Int) = ((m - 1 : Nat) : Int) := by rw [wr64 (by omega) (by omega)]; omega
    have w5 : IntKind.i64.wrap ((Z : Nat) * ((m - 1 : Nat) : Int)) = ((Z * (m - 1) : Nat) : Int) := by rw [← Int.natCast_mul, wr64 (by omega) (by omega)]
    have w6 : IntKind.i64.wrap ((B : Nat) + ((Z * (m - 1) : Nat) : Int)) = ((B + Z * (m - 1) : Nat) : Int) := by rw [wr64 (by omega) (by omega)]; rfl
    obtain ⟨F, hFe⟩ : ∃ F, F = fltF (rdF R) T := ⟨_, rfl⟩
    rw [← hFe] at hF ⊢
    clear hFe hT hMe hBe hZe hRe hCe
    obtain ⟨g1, g2⟩ := F
    simp only [fltV]
    have s4 := Step.push0 S0 u3 h3 #[.int .i64 g1, .int .i64 0, .int .i64 g2] 27
    have B6 := Blk.new (u := u3) (h := h3) [.int .i64 g1, .int .i64 0, .int .i64 g2] 27
    obtain ⟨h4, hh4⟩ : ∃ h4, h4 = h3.push (.cells #[.int .i64 g1, .int .i64 0, .int .i64 g2] 27) := ⟨_, rfl⟩
    obtain ⟨u4, hu4⟩ : ∃ u4, u4 = ub u3 h3.size 0 := ⟨_, rfl⟩
    have B6' : Blk u4 h4 h3.size [.int .i64 g1, .int .i64 0, .int .i64 g2] := by rw [hu4, hh4]; exact B6
    rw [← hh4, ← hu4] at s4
    clear B6
    have B61 := B6'.1
    have st4 := s3.trans0 s4
    have hK' := hK _ _ st4
    by_cases h1 : M < m
    · cases bad with
      | false =>
        rw [if_pos ⟨h1, .inl rfl⟩] at hF
        obtain ⟨f1, f2⟩ := Prod.mk.inj hF
        simp (disch := first | omega | (simp only [e_ssz, e_psz, e_hszs, List.length_cons, List.length_nil]; try omega; done)) only [↓reduceIte, go_sem, e1, e2, e8, ← hh4, B6'.at, B6'.2.1, w1, w2, w3, eq_true (show ((M : Nat) : Int) < (m : Nat) by omega), eq_true f1, eq_true f2]
        exact hK'
      | true =>
        by_cases h2 : M + 1 < m
        · rw [if_pos ⟨h1, .inr h2⟩] at hF
          obtain ⟨f1, f2⟩ := Prod.mk.inj hF
          simp (disch := first | omega | (simp only [e_ssz, e_psz, e_hszs, List.length_cons, List.length_nil]; try omega; done)) only [↓reduceIte, go_sem, e1, e2, e8, ← hh4, B6'.at, B6'.2.1, w1, w2, w3, eq_true (show ((M : Nat) : Int) < (m : Nat) by omega), eq_true (show ((M + 1 : Nat) : Int) < (m : Nat) by omega), eq_true f1, eq_true f2]
          exact hK'
        · rw [if_neg (by rintro ⟨-, q | q⟩; exact absurd q (by decide); exact h2 q), if_pos rfl] at hF
          obtain ⟨f1, f2⟩ := Prod.mk.inj hF
          simp (disch := first | omega | (simp only [e_ssz, e_psz, e_hszs, List.length_cons, List.length_nil]; try omega; done)) only [↓reduceIte, go_sem, e1, e2, e8, ← hh4, B6'.at, B6'.2.1, w1, w4, w5, w6, eq_true (show ((M : Nat) : Int) < (m : Nat) by omega), eq_false (show ¬ ((M + 1 : Nat) : Int) < (m : Nat) by omega), eq_true f1, eq_true f2]
          exact hK'
    · rw [if_neg (fun q => h1 q.1)] at hF
      cases bad with
      | false =>
        rw [if_neg (by decide)] at hF
        obtain ⟨f1, f2⟩ := Prod.mk.inj hF
        simp (disch := first | omega | (simp only [e_ssz, e_psz, e_hszs, List.length_cons, List.length_nil]; try omega; done)) only [↓reduceIte, go_sem, e1, e2, ← hh4, B6'.at, B6'.2.1, eq_false (show ¬ ((M : Nat) : Int) < (m : Nat) by omega), eq_true f1, eq_true f2]
        exact hK'
      | true =>
        rw [if_pos rfl] at hF
        obtain ⟨f1, f2⟩ := Prod.mk.inj hF
        simp (disch := first | omega | (simp only [e_ssz, e_psz, e_hszs, List.length_cons, List.length_nil]; try omega; done)) only [↓reduceIte, go_sem, e1, e2, e8, ← hh4, B6'.at, B6'.2.1, w4, w5, w6, eq_false (show ¬ ((M : Nat) : Int) < (m : Nat) by omega), eq_true f1, eq_true f2]
        exact hK'
  simp (disch := first | omega | (simp only [e_ssz, e_psz, e_hszs, List.length_cons, List.length_nil]; try omega; done)) only [↓reduceIte, go_sem, sF, sS, ParseLimits_S, ParseLimits_E]
  refine effS_call (.inl ⟨rfl, kd, 6, rfl, by omega, by simp (disch := first | omega | (simp only [e_ssz, e_psz, e_hszs, List.length_cons, List.length_nil]; try omega; done)) only [go_sem], ?_⟩)
  rw [hk]
  obtain q | q | q | q | q | q : k = 0 ∨ k = 1 ∨ k = 2 ∨ k = 3 ∨ k = 4 ∨ k = 5 := by omega
  · have hz : limZ k = 2 := by rw [q]; rfl
    have hrr : limR k = 0 := by rw [q]; rfl
    rw [hz, hrr] at tl
    obtain ⟨m, hm⟩ : ∃ m : Nat, n % 600 = m := ⟨(n % 600).toNat, by omega⟩
    have w : IntKind.i64.wrap (1 + ((m : Nat) : Int)) = ((1 + m : Nat) : Int) := by rw [wr64 (by omega) (by omega)]; rfl
    simp (disch := first | omega | (simp only [e_ssz, e_psz, e_hszs, List.length_cons, List.length_nil]; try omega; done)) only [↓reduceIte, go_sem, eq_true (show ((k : Nat) : Int) = 0 by omega)]
    refine effS_call (.inl ⟨rfl, n, 600, rfl, by omega, by simp (disch := first | omega | (simp only [e_ssz, e_psz, e_hszs, List.length_cons, List.length_nil]; try omega; done)) only [go_sem], ?_⟩)
    rw [hm]
    simp (disch := first | omega | (simp only [e_ssz, e_psz, e_hszs, List.length_cons, List.length_nil]; try omega; done)) only [↓reduceIte, go_sem, w]
    exact tl _ (1 + m) (by simp [upd]) (by simp [upd]) (by simp [upd]) (by simp [upd]) (by simp [upd]) (by omega) (by omega)
  · have hz : limZ k = 2 := by rw [q]; rfl
    have hrr : limR k = 1 := by rw [q]; rfl
    rw [hz, hrr] at tl
    obtain ⟨m, hm⟩ : ∃ m : Nat, n % 4200 = m := ⟨(n % 4200).toNat, by omega⟩
    have w : IntKind.i64.wrap (1 + ((m : Nat) : Int)) = ((1 + m : Nat) : Int) := by rw [wr64 (by omega) (by omega)]; rfl
    simp (disch := first | omega | (simp only [e_ssz, e_psz, e_hszs, List.length_cons, List.length_nil]; try omega; done)) only [↓reduceIte, go_sem, eq_false (show ¬ ((k : Nat) : Int) = 0 by omega), eq_true (show ((k : Nat) : Int) = 1 by omega)]
    refine effS_call (.inl ⟨rfl, n, 4200, rfl, by omega, by simp (disch := first | omega | (simp only [e_ssz, e_psz, e_hszs, List.length_cons, List.length_nil]; try omega; done)) only [go_sem], ?_⟩)
    rw [hm]
    simp (disch := first | omega | (simp only [e_ssz, e_psz, e_hszs, List.length_cons, List.length_nil]; try omega; done)) only [↓reduceIte, go_sem, w]
    exact tl _ (1 + m) (by simp [upd]) (by simp [upd]) (by simp [upd]) (by simp [upd]) (by simp [upd]) (by omega) (by omega)
  · have hz : limZ k = 4 := by rw [q]; rfl
    have hrr : limR k = 0 := by rw [q]; rfl
    rw [hz, hrr] at tl
    obtain ⟨m, hm⟩ : ∃ m : Nat, n % 40 = m := ⟨(n % 40).toNat, by omega⟩
    have w : IntKind.i64.wrap (1 + ((m : Nat) : Int)) = ((1 + m : Nat) : Int) := by rw [wr64 (by omega) (by omega)]; rfl
    have x1 : IntKind.i64.wrap (((k : Nat) : Int) - 2) = 0 := by rw [wr64 (by omega) (by omega)]; omega
    have x2 : IntKind.i64.wrap (2 * 0 : Int) = 0 := by rw [wr64 (by decide) (by decide)]; rfl
    simp (disch := first | omega | (simp only [e_ssz, e_psz, e_hszs, List.length_cons, List.length_nil]; try omega; done)) only [↓reduceIte, go_sem, eq_false (show ¬ ((k : Nat) : Int) = 0 by omega), eq_false (show ¬ ((k : Nat) : Int) = 1 by omega), eq_true (show ((k : Nat) : Int) = 2 by omega)]
    refine effS_call (.inl ⟨rfl, n, 40, rfl, by omega, by simp (disch := first | omega | (simp only [e_ssz, e_psz, e_hszs, List.length_cons, List.length_nil]; try omega; done)) only [go_sem], ?_⟩)
    rw [hm]
    simp (disch := first | omega | (simp only [e_ssz, e_psz, e_hszs, List.length_cons, List.length_nil]; try omega; done)) only [↓reduceIte, go_sem, w, x1, x2]
    exact tl _ (1 + m) (by simp [upd]) (by simp [upd]) (by simp [upd]) (by simp [upd]) (by simp [upd]) (by omega) (by omega)
  · have hz : limZ k = 4 := by rw [q]; rfl
    have hrr : limR k = 2 := by rw [q]; rfl
    rw [hz, hrr] at tl
    obtain ⟨m, hm⟩ : ∃ m : Nat, n % 40 = m := ⟨(n % 40).toNat, by omega⟩
    have w : IntKind.i64.wrap (1 + ((m : Nat) : Int)) = ((1 + m : Nat) : Int) := by rw [wr64 (by omega) (by omega)]; rfl
    have x1 : IntKind.i64.wrap (((k : Nat) : Int) - 2) = 1 := by rw [wr64 (by omega) (by omega)]; omega
    have x2 : IntKind.i64.wrap (2 * 1 : Int) = 2 := by rw [wr64 (by decide) (by decide)]; rfl
    simp (disch := first | omega | (simp only [e_ssz, e_psz, e_hszs, List.length_cons, List.length_nil]; try omega; done)) only [↓reduceIte, go_sem, eq_false (show ¬ ((k : Nat) : Int) = 0 by omega), eq_false (show ¬ ((k : Nat) : Int) = 1 by omega), eq_false (show ¬ ((k : Nat) : Int) = 2 by omega), eq_true (show ((k : Nat) : Int) = 3 by omega)]
    refine effS_call (.inl ⟨rfl, n, 40, rfl, by omega, by simp (disch := first | omega | (simp only [e_ssz, e_psz, e_hszs, List.length_cons, List.length_nil]; try omega; done)) only [go_sem], ?_⟩)
    rw [hm]
    simp (disch := first | omega | (simp only [e_ssz, e_psz, e_hszs, List.length_cons, List.length_nil]; try omega; done)) only [↓reduceIte, go_sem, w, x1, x2]
    exact tl _ (1 + m) (by simp [upd]) (by simp [upd]) (by simp [upd]) (by simp [upd]) (by simp [upd]) (by omega) (by omega)
  · have hz : limZ k = 2 := by rw [q]; rfl
    have hrr : limR k = 0 := by rw [q]; rfl
    rw [hz, hrr] at tl
    obtain ⟨m, hm⟩ : ∃ m : Nat, n % 20 = m := ⟨(n % 20).toNat, by omega⟩
    have w : IntKind.i64.wrap (1 + ((m : Nat) : Int)) = ((1 + m : Nat) : Int) := by rw [wr64 (by omega) (by omega)]; rfl
    have x1 : IntKind.i64.wrap (((k : Nat) : Int) - 4) = 0 := by rw [wr64 (by omega) (by omega)]; omega
    have x2 : IntKind.i64.wrap (3 * 0 : Int) = 0 := by rw [wr64 (by decide) (by decide)]; rfl
    simp (disch := first | omega | (simp only [e_ssz, e_psz, e_hszs, List.length_cons, List.length_nil]; try omega; done)) only [↓reduceIte, go_sem, eq_false (show ¬ ((k : Nat) : Int) = 0 by omega), eq_false (show ¬ ((k : Nat) : Int) = 1 by omega), eq_false (show ¬ ((k : Nat) : Int) = 2 by omega), eq_false (show ¬ ((k : Nat) : Int) = 3 by omega)]
    refine effS_call (.inl ⟨rfl, n, 20, rfl, by omega, by simp (disch := first | omega | (simp only [e_ssz, e_psz, e_hszs, List.length_cons, List.length_nil]; try omega; done)) only [go_sem], ?_⟩)
    rw [hm]
    simp (disch := first | omega | (simp only [e_ssz, e_psz, e_hszs, List.length_cons, List.length_nil]; try omega; done)) only [↓reduceIte, go_sem, w, x1, x2]
    exact tl _ (1 + m) (by simp [upd]) (by simp [upd]) (by simp [upd]) (by simp [upd]) (by simp [upd]) (by omega) (by omega)
  · have hz : limZ k = 2 := by rw [q]; rfl
    have hrr : limR k = 3 := by rw [q]; rfl
    rw [hz, hrr] at tl
    obtain ⟨m, hm⟩ : ∃ m : Nat, n % 20 = m := ⟨(n % 20).toNat, by omega⟩
    have w : IntKind.i64.wrap (1 + ((m : Nat) : Int)) = ((1 + m : Nat) : Int) := by rw [wr64 (by omega) (by omega)]; rfl
    have x1 : IntKind.i64.wrap (((k : Nat) : Int) - 4) = 1 := by rw [wr64 (by omega) (by omega)]; omega
    have x2 : IntKind.i64.wrap (3 * 1 : Int) = 3 := by rw [wr64 (by decide) (by decide)]; rfl
    simp (disch := first | omega | (simp only [e_ssz, e_psz, e_hszs, List.length_cons, List.length_nil]; try omega; done)) only [↓reduceIte, go_sem, eq_false (show ¬ ((k : Nat) : Int) = 0 by omega), eq_false (show ¬ ((k : Nat) : Int) = 1 by omega), eq_false (show ¬ ((k : Nat) : Int) = 2 by omega), eq_false (show ¬ ((k : Nat) : Int) = 3 by omega)]
    refine effS_call (.inl ⟨rfl, n, 20, rfl, by omega, by simp (disch := first | omega | (simp only [e_ssz, e_psz, e_hszs, List.length_cons, List.length_nil]; try omega; done)) only [go_sem], ?_⟩)
    rw [hm]
    simp (disch := first | omega | (simp only [e_ssz, e_psz, e_hszs, List.length_cons, List.length_nil]; try omega; done)) only [↓reduceIte, go_sem, w, x1, x2]
    exact tl _ (1 + m) (by simp [upd]) (by simp [upd]) (by simp [upd]) (by simp [upd]) (by simp [upd]) (by omega) (by omega)
theorem ParseLimits_hc {kd n : Int} {bad : Bool} {h : H} (_ : -9223372036854775808 ≤ kd ∧ kd ≤ 9223372036854775807) (_ : -9223372036854775808 ≤ n ∧ n ≤ 9223372036854775807) (hG : LxG (hsz h) h) : HCX Tryd.prog 16 [.int .i64 kd, .int .i64 n, .bool bad] h (fun v h' => v = .bool true ∧ Ext0 h h') fun _ _ => False :=
  ParseLimits_ok ⟨hsz h, kd, n, bad, rfl, hG, fun u' h' st => ⟨rfl, st.ext⟩⟩
end Go.Proofs.YtmnfhmbmifompaaDoor
