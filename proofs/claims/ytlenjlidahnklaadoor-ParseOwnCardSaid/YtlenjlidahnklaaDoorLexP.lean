/- Plain functions over a text's bytes: blanks, comments, gaps. No program in sight. -/
import Init.Data.List.Lemmas
namespace Edict

def bat (s : List UInt8) (k : Nat) : Nat := (s.getD k 0).toNat
def isBl (c : Nat) : Bool := c == 32 || c == 9 || c == 10 || c == 13
/-- The two bytes at k. -/
def pr (s : List UInt8) (k a b : Nat) : Bool := decide (k + 1 < s.length) && (bat s k == a) && (bat s (k + 1) == b)
/-- Where the line ends. -/
def lineE (s : List UInt8) (k : Nat) : Nat := if k < s.length ∧ bat s k ≠ 10 then lineE s (k + 1) else k
termination_by s.length - k
/-- Behind the comment's end, d comments deep. -/
def blk (s : List UInt8) (d k : Nat) : Option Nat :=
  if k < s.length then
    if pr s k 47 42 then blk s (d + 1) (k + 2)
    else if pr s k 42 47 then (if d ≤ 1 then some (k + 2) else blk s (d - 1) (k + 2))
    else blk s d (k + 1)
  else none
termination_by s.length - k
theorem lineE_step {s : List UInt8} {k : Nat} (h : k < s.length) (hb : bat s k ≠ 10) : lineE s k = lineE s (k + 1) := by rw [lineE, if_pos ⟨h, hb⟩]
theorem lineE_stop {s : List UInt8} {k : Nat} (h : ¬ (k < s.length ∧ bat s k ≠ 10)) : lineE s k = k := by rw [lineE, if_neg h]
theorem blk_up {s : List UInt8} {d k : Nat} (hp : pr s k 47 42 = true) : blk s d k = blk s (d + 1) (k + 2) := by
  have h : k < s.length := by simp [pr] at hp; omega
  rw [blk]; simp [h, hp]
theorem blk_down {s : List UInt8} {d k : Nat} (h1 : pr s k 47 42 = false) (hp : pr s k 42 47 = true) : blk s d k = if d ≤ 1 then some (k + 2) else blk s (d - 1) (k + 2) := by
  have h : k < s.length := by simp [pr] at hp; omega
  rw [blk]; simp [h, h1, hp]
theorem blk_on {s : List UInt8} {d k : Nat} (h : k < s.length) (h1 : pr s k 47 42 = false) (h2 : pr s k 42 47 = false) : blk s d k = blk s d (k + 1) := by
  rw [blk]; simp [h, h1, h2]
theorem blk_end {s : List UInt8} {d k : Nat} (h : s.length ≤ k) : blk s d k = none := by
  rw [blk]; simp; omega
theorem lineE_ge (s : List UInt8) (k : Nat) : k ≤ lineE s k := by
  unfold lineE; split
  · exact Nat.le_trans (Nat.le_succ k) (lineE_ge s (k + 1))
  · exact Nat.le_refl k
termination_by s.length - k
theorem lineE_le (s : List UInt8) (k : Nat) (h : k ≤ s.length) : lineE s k ≤ s.length := by
  unfold lineE; split
  · exact lineE_le s (k + 1) (by omega)
  · exact h
termination_by s.length - k
theorem pr_lt {s : List UInt8} {k a b : Nat} (h : pr s k a b = true) : k + 1 < s.length := by simp [pr] at h; exact h.1.1
theorem blk_gt (s : List UInt8) (d k j : Nat) (h : blk s d k = some j) : k < j ∧ j ≤ s.length := by
  unfold blk at h
  split at h
  · split at h
    · rename_i h1; have := blk_gt s _ _ _ h; omega
    · split at h
      · rename_i h1
        have := pr_lt h1
        split at h
        · cases h; omega
        · have := blk_gt s _ _ _ h; omega
      · have := blk_gt s _ _ _ h; omega
  · cases h
termination_by s.length - k
/-- Behind the gap at k; or where a comment begins that is not closed. -/
def gapF (s : List UInt8) (k : Nat) : Nat × Bool :=
  if h : k < s.length then
    if isBl (bat s k) then gapF s (k + 1)
    else if h37 : bat s k = 37 then gapF s (lineE s (k + 1))
    else if pr s k 47 42 then match hb : blk s 1 (k + 2) with | some j => gapF s j | none => (k, false)
    else (k, true)
  else (k, true)
termination_by s.length - k
decreasing_by
  · omega
  · have := lineE_ge s (k + 1); omega
  · have := blk_gt s _ _ _ hb; omega
theorem gap_end {s : List UInt8} {k : Nat} (h : s.length ≤ k) : gapF s k = (k, true) := by unfold gapF; rw [dif_neg (by omega)]
theorem gap_bl {s : List UInt8} {k : Nat} (h : k < s.length) (hb : isBl (bat s k) = true) : gapF s k = gapF s (k + 1) := by
  rw [gapF]; simp [h, hb]
theorem gap_line {s : List UInt8} {k : Nat} (h : k < s.length) (hb : bat s k = 37) : gapF s k = gapF s (lineE s (k + 1)) := by
  rw [gapF]; simp [h, hb, isBl]
theorem gap_some {s : List UInt8} {k j : Nat} (hp : pr s k 47 42 = true) (hb : blk s 1 (k + 2) = some j) : gapF s k = gapF s j := by
  have h := pr_lt hp
  have h47 : bat s k = 47 := by simp [pr] at hp; exact hp.1.2
  rw [gapF]; simp only [show k < s.length by omega, dite_true, h47, hp]
  simp only [isBl, Nat.reduceBEq, Bool.or_self, Bool.false_eq_true, if_false, Nat.reduceEqDiff, dite_false, if_true]
  split
  · rename_i j' hj; rw [hb] at hj; cases hj; rfl
  · rename_i hj; rw [hb] at hj; cases hj
theorem gap_none {s : List UInt8} {k : Nat} (hp : pr s k 47 42 = true) (hb : blk s 1 (k + 2) = none) : gapF s k = (k, false) := by
  have h := pr_lt hp
  have h47 : bat s k = 47 := by simp [pr] at hp; exact hp.1.2
  rw [gapF]; simp only [show k < s.length by omega, dite_true, h47, hp]
  simp only [isBl, Nat.reduceBEq, Bool.or_self, Bool.false_eq_true, if_false, Nat.reduceEqDiff, dite_false, if_true]
  split
  · rename_i j' hj; rw [hb] at hj; cases hj
  · rfl
theorem gap_else {s : List UInt8} {k : Nat} (h1 : isBl (bat s k) = false) (h2 : bat s k ≠ 37) (h3 : pr s k 47 42 = false) : gapF s k = (k, true) := by
  rw [gapF]; simp [h1, h2, h3]
/-- Is the piece from a to b blanks and whole comments alone? -/
def blankF (s : List UInt8) (a b : Int) : Bool :=
  decide (s.length ≤ 65536 ∧ 0 ≤ a ∧ a ≤ b ∧ b ≤ s.length) && decide (gapF ((s.take b.toNat).drop a.toNat) 0 = (((s.take b.toNat).drop a.toNat).length, true))
end Edict
