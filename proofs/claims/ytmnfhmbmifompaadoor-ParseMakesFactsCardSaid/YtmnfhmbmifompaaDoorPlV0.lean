import Init.Data.List.Lemmas
import Derived.Test.YtmnfhmbmifompaaDoorEvB
import Derived.Test.YtmnfhmbmifompaaDoorProg
import Derived.KernelRfl
import Derived.Test.YtmnfhmbmifompaaDoorPlS
section Merged
namespace Edict

def bat (s : List UInt8) (k : Nat) : Nat := (s.getD k 0).toNat
def isBl (c : Nat) : Bool := c == 32 || c == 9 || c == 10 || c == 13
/-- The two bytes at k. -/
def pr (s : List UInt8) (k a b : Nat) : Bool := decide (k + 1 < s.length) && (bat s k == a) && (bat s (k + 1) == b)
/-- Where the line ends. -/
def lineE (s : List UInt8) (k : Nat) : Nat := if k < s.length ∧ bat s k ≠ 10 then lineE s (k + 1) else k
termination_by s.length - k
/-- Behind the comment's end, d comments deep. -/
def blk (s : List UInt8) (d k : Nat) : Option Nat :=
  if k < s.length then
    if pr s k 47 42 then blk s (d + 1) (k + 2)
    else if pr s k 42 47 then (if d ≤ 1 then some (k + 2) else blk s (d - 1) (k + 2))
    else blk s d (k + 1)
  else none
termination_by s.length - k
theorem lineE_step {s : List UInt8} {k : Nat} (h : k < s.length) (hb : bat s k ≠ 10) : lineE s k = lineE s (k + 1) := by rw [lineE, if_pos ⟨h, hb⟩]
theorem lineE_stop {s : List UInt8} {k : Nat} (h : ¬ (k < s.length ∧ bat s k ≠ 10)) : lineE s k = k := by rw [lineE, if_neg h]
theorem blk_up {s : List UInt8} {d k : Nat} (hp : pr s k 47 42 = true) : blk s d k = blk s (d + 1) (k + 2) := by
  have h : k < s.length := by simp [pr] at hp; omega
  rw [blk]; simp [h, hp]
theorem blk_down {s : List UInt8} {d k : Nat} (h1 : pr s k 47 42 = false) (hp : pr s k 42 47 = true) : blk s d k = if d ≤ 1 then some (k + 2) else blk s (d - 1) (k + 2) := by
  have h : k < s.length := by simp [pr] at hp; omega
  rw [blk]; simp [h, h1, hp]
theorem blk_on {s : List UInt8} {d k : Nat} (h : k < s.length) (h1 : pr s k 47 42 = false) (h2 : pr s k 42 47 = false) : blk s d k = blk s d (k + 1) := by
  rw [blk]; simp [h, h1, h2]
theorem blk_end {s : List UInt8} {d k : Nat} (h : s.length ≤ k) : blk s d k = none := by
  rw [blk]; simp; omega
theorem lineE_ge (s : List UInt8) (k : Nat) : k ≤ lineE s k := by
  unfold lineE; split
  · exact Nat.le_trans (Nat.le_succ k) (lineE_ge s (k + 1))
  · exact Nat.le_refl k
termination_by s.length - k
theorem lineE_le (s : List UInt8) (k : Nat) (h : k ≤ s.length) : lineE s k ≤ s.length := by
  unfold lineE; split
  · exact lineE_le s (k + 1) (by omega)
  · exact h
termination_by s.length - k
theorem pr_lt {s : List UInt8} {k a b : Nat} (h : pr s k a b = true) : k + 1 < s.length := by simp [pr] at h; exact h.1.1
theorem blk_gt (s : List UInt8) (d k j : Nat) (h : blk s d k = some j) : k < j ∧ j ≤ s.length := by
  unfold blk at h
  split at h
  · split at h
    · rename_i h1; have := blk_gt s _ _ _ h; omega
    · split at h
      · rename_i h1
        have := pr_lt h1
        split at h
        · cases h; omega
        · have := blk_gt s _ _ _ h; omega
      · have := blk_gt s _ _ _ h; omega
  · cases h
termination_by s.length - k
/-- Behind the gap at k; or where a comment begins that is not closed. -/
def gapF (s : List UInt8) (k : Nat) : Nat × Bool :=
  if h : k < s.length then
    if isBl (bat s k) then gapF s (k + 1)
    else if h37 : bat s k = 37 then gapF s (lineE s (k + 1))
    else if pr s k 47 42 then match hb : blk s 1 (k + 2) with | some j => gapF s j | none => (k, false)
    else (k, true)
  else (k, true)
termination_by s.length - k
decreasing_by
  · omega
  · have := lineE_ge s (k + 1); omega
  · have := blk_gt s _ _ _ hb; omega
theorem gap_end {s : List UInt8} {k : Nat} (h : s.length ≤ k) : gapF s k = (k, true) := by unfold gapF; rw [dif_neg (by omega)]
theorem gap_bl {s : List UInt8} {k : Nat} (h : k < s.length) (hb : isBl (bat s k) = true) : gapF s k = gapF s (k + 1) := by
  rw [gapF]; simp [h, hb]
theorem gap_line {s : List UInt8} {k : Nat} (h : k < s.length) (hb : bat s k = 37) : gapF s k = gapF s (lineE s (k + 1)) := by
  rw [gapF]; simp [h, hb, isBl]
theorem gap_some {s : List UInt8} {k j : Nat} (hp : pr s k 47 42 = true) (hb : blk s 1 (k + 2) = some j) : gapF s k = gapF s j := by
  have h := pr_lt hp
  have h47 : bat s k = 47 := by simp [pr] at hp; exact hp.1.2
  rw [gapF]; simp only [show k < s.length by omega, dite_true, h47, hp]
  simp only [isBl, Nat.reduceBEq, Bool.or_self, Bool.false_eq_true, if_false, Nat.reduceEqDiff, dite_false, if_true]
  split
  · rename_i j' hj; rw [hb] at hj; cases hj; rfl
  · rename_i hj; rw [hb] at hj; cases hj
theorem gap_none {s : List UInt8} {k : Nat} (hp : pr s k 47 42 = true) (hb : blk s 1 (k + 2) = none) : gapF s k = (k, false) := by
  have h := pr_lt hp
  have h47 : bat s k = 47 := by simp [pr] at hp; exact hp.1.2
  rw [gapF]; simp only [show k < s.length by omega, dite_true, h47, hp]
  simp only [isBl, Nat.reduceBEq, Bool.or_self, Bool.false_eq_true, if_false, Nat.reduceEqDiff, dite_false, if_true]
  split
  · rename_i j' hj; rw [hb] at hj; cases hj
  · rfl
theorem gap_else {s : List UInt8} {k : Nat} (h1 : isBl (bat s k) = false) (h2 : bat s k ≠ 37) (h3 : pr s k 47 42 = false) : gapF s k = (k, true) := by
  rw [gapF]; simp [h1, h2, h3]
/-- Is the piece from a to b blanks and whole comments alone? -/
def blankF (s : List UInt8) (a b : Int) : Bool :=
  decide (s.length ≤ 65536 ∧ 0 ≤ a ∧ a ≤ b ∧ b ≤ s.length) && decide (gapF ((s.take b.toNat).drop a.toNat) 0 = (((s.take b.toNat).drop a.toNat).length, true))
end Edict
end Merged
section Merged
namespace Go.Proofs.YtmnfhmbmifompaaDoor
open Go Go.Ev
def plFactIs_M : Nat → Bool := fun i => Nat.testBit 1125899936727103 i
def plFactIs_L1 : S :=
  (.seq (.sts [(.chk [] (.c2 (.bin .lss) (.t 23) (.t 22))),
    (.set 24 (.o2 (.bin .lss) (.t 23) (.t 22)))]) (.seq (.cond 24 .skip (.exit 0)) (.seq (.block 1 (.seq (.sts [(.set 5 (.t 23))]) (.seq (.sts [(.chk [] (.c1 (.fld 1) (.t 2))),
    (.chk [] (.c1 .ld1 (.o1 (.fld 1) (.t 2)))),
    (.chk [] (.c2 (.idxA 3) (.o1 .ld1 (.o1 (.fld 1) (.t 2))) (.t 5))),
    (.chk [] (.c1 (.ldn 3) (.o2 (.idxA 3) (.o1 .ld1 (.o1 (.fld 1) (.t 2))) (.t 5)))),
    (.chk [] (.c1 (.fld 1) (.t 3))),
    (.chk [] (.c1 .ld1 (.o1 (.fld 1) (.t 3)))),
    (.chk [] (.c2 (.idxA 4) (.o1 .ld1 (.o1 (.fld 1) (.t 3))) (.t 5))),
    (.chk [] (.c1 (.fld 0) (.o2 (.idxA 4) (.o1 .ld1 (.o1 (.fld 1) (.t 3))) (.t 5)))),
    (.chk [] (.c1 .ld1 (.o1 (.fld 0) (.o2 (.idxA 4) (.o1 .ld1 (.o1 (.fld 1) (.t 3))) (.t 5))))),
    (.chk [] (.c1 (.fld 1) (.t 3))),
    (.chk [] (.c1 .ld1 (.o1 (.fld 1) (.t 3)))),
    (.chk [] (.c2 (.idxA 4) (.o1 .ld1 (.o1 (.fld 1) (.t 3))) (.t 5))),
    (.chk [] (.c1 (.fld 1) (.o2 (.idxA 4) (.o1 .ld1 (.o1 (.fld 1) (.t 3))) (.t 5)))),
    (.chk [] (.c1 .ld1 (.o1 (.fld 1) (.o2 (.idxA 4) (.o1 .ld1 (.o1 (.fld 1) (.t 3))) (.t 5))))),
    (.chk [] (.c1 (.fld 1) (.t 3))),
    (.chk [] (.c1 .ld1 (.o1 (.fld 1) (.t 3)))),
    (.chk [] (.c2 (.idxA 4) (.o1 .ld1 (.o1 (.fld 1) (.t 3))) (.t 5))),
    (.chk [] (.c1 (.fld 2) (.o2 (.idxA 4) (.o1 .ld1 (.o1 (.fld 1) (.t 3))) (.t 5)))),
    (.chk [] (.c1 .ld1 (.o1 (.fld 2) (.o2 (.idxA 4) (.o1 .ld1 (.o1 (.fld 1) (.t 3))) (.t 5))))),
    (.chk [] (.cb 3 [(0, (1, (.o1 .ld1 (.o1 (.fld 0) (.o2 (.idxA 4) (.o1 .ld1 (.o1 (.fld 1) (.t 3))) (.t 5)))))), (1, (1, (.o1 .ld1 (.o1 (.fld 1) (.o2 (.idxA 4) (.o1 .ld1 (.o1 (.fld 1) (.t 3))) (.t 5)))))), (2, (1, (.o1 .ld1 (.o1 (.fld 2) (.o2 (.idxA 4) (.o1 .ld1 (.o1 (.fld 1) (.t 3))) (.t 5))))))])),
    (.chk [] (.c2 (.eqs true [(.int .i64), (.int .i64), .str]) (.o1 (.ldn 3) (.o2 (.idxA 3) (.o1 .ld1 (.o1 (.fld 1) (.t 2))) (.t 5))) (.o2 (.put 2 1) (.o2 (.put 1 1) (.o2 (.put 0 1) (.c (.agg #[(.int .i64 0), (.int .i64 0), (str [])])) (.o1 .ld1 (.o1 (.fld 0) (.o2 (.idxA 4) (.o1 .ld1 (.o1 (.fld 1) (.t 3))) (.t 5))))) (.o1 .ld1 (.o1 (.fld 1) (.o2 (.idxA 4) (.o1 .ld1 (.o1 (.fld 1) (.t 3))) (.t 5))))) (.o1 .ld1 (.o1 (.fld 2) (.o2 (.idxA 4) (.o1 .ld1 (.o1 (.fld 1) (.t 3))) (.t 5))))))),
    (.set 50 (.o2 (.eqs true [(.int .i64), (.int .i64), .str]) (.o1 (.ldn 3) (.o2 (.idxA 3) (.o1 .ld1 (.o1 (.fld 1) (.t 2))) (.t 5))) (.o2 (.put 2 1) (.o2 (.put 1 1) (.o2 (.put 0 1) (.c (.agg #[(.int .i64 0), (.int .i64 0), (str [])])) (.o1 .ld1 (.o1 (.fld 0) (.o2 (.idxA 4) (.o1 .ld1 (.o1 (.fld 1) (.t 3))) (.t 5))))) (.o1 .ld1 (.o1 (.fld 1) (.o2 (.idxA 4) (.o1 .ld1 (.o1 (.fld 1) (.t 3))) (.t 5))))) (.o1 .ld1 (.o1 (.fld 2) (.o2 (.idxA 4) (.o1 .ld1 (.o1 (.fld 1) (.t 3))) (.t 5)))))))]) (.cond 50 (.seq (.sts [(.set 4 (.c (.bool false)))]) .ret) .skip)))) (.sts [(.chk [] (.c2 (.bin .add) (.t 23) (.c (.int .i64 1)))),
    (.set 51 (.o2 (.bin .add) (.t 23) (.c (.int .i64 1)))),
    (.set 23 (.t 51))]))))
def plFactIs_S : S :=
  (.seq (.sts [(.eff [] (some 2) (.box 24) [(.t 0)] []),
    (.eff [] (some 3) (.box 52) [(.t 1)] []),
    (.set 4 (.c (.bool false)))]) (.seq (.seq (.sts [(.chk [] (.c1 (.fld 0) (.t 2))),
    (.chk [] (.c1 .ld1 (.o1 (.fld 0) (.t 2)))),
    (.chk [] (.c1 (.fld 0) (.t 3))),
    (.chk [] (.c1 .ld1 (.o1 (.fld 0) (.t 3)))),
    (.chk [] (.c2 (.bin .neq) (.o1 .ld1 (.o1 (.fld 0) (.t 2))) (.o1 .ld1 (.o1 (.fld 0) (.t 3))))),
    (.chk [((.o2 (.bin .neq) (.o1 .ld1 (.o1 (.fld 0) (.t 2))) (.o1 .ld1 (.o1 (.fld 0) (.t 3)))), false)] (.c1 (.fld 1) (.t 2))),
    (.chk [((.o2 (.bin .neq) (.o1 .ld1 (.o1 (.fld 0) (.t 2))) (.o1 .ld1 (.o1 (.fld 0) (.t 3)))), false)] (.c1 .ld1 (.o1 (.fld 1) (.t 2)))),
    (.chk [((.o2 (.bin .neq) (.o1 .ld1 (.o1 (.fld 0) (.t 2))) (.o1 .ld1 (.o1 (.fld 0) (.t 3)))), false)] (.c1 .len (.o1 .ld1 (.o1 (.fld 1) (.t 2))))),
    (.chk [((.o2 (.bin .neq) (.o1 .ld1 (.o1 (.fld 0) (.t 2))) (.o1 .ld1 (.o1 (.fld 0) (.t 3)))), false)] (.c1 (.fld 1) (.t 3))),
    (.chk [((.o2 (.bin .neq) (.o1 .ld1 (.o1 (.fld 0) (.t 2))) (.o1 .ld1 (.o1 (.fld 0) (.t 3)))), false)] (.c1 .ld1 (.o1 (.fld 1) (.t 3)))),
    (.chk [((.o2 (.bin .neq) (.o1 .ld1 (.o1 (.fld 0) (.t 2))) (.o1 .ld1 (.o1 (.fld 0) (.t 3)))), false)] (.c1 .len (.o1 .ld1 (.o1 (.fld 1) (.t 3))))),
    (.chk [((.o2 (.bin .neq) (.o1 .ld1 (.o1 (.fld 0) (.t 2))) (.o1 .ld1 (.o1 (.fld 0) (.t 3)))), false)] (.c2 (.bin .neq) (.o1 .len (.o1 .ld1 (.o1 (.fld 1) (.t 2)))) (.o1 .len (.o1 .ld1 (.o1 (.fld 1) (.t 3)))))),
    (.chk [] (.c3 .pick (.o2 (.bin .neq) (.o1 .ld1 (.o1 (.fld 0) (.t 2))) (.o1 .ld1 (.o1 (.fld 0) (.t 3)))) (.c (.bool true)) (.o2 (.bin .neq) (.o1 .len (.o1 .ld1 (.o1 (.fld 1) (.t 2)))) (.o1 .len (.o1 .ld1 (.o1 (.fld 1) (.t 3))))))),
    (.set 19 (.o3 .pick (.o2 (.bin .neq) (.o1 .ld1 (.o1 (.fld 0) (.t 2))) (.o1 .ld1 (.o1 (.fld 0) (.t 3)))) (.c (.bool true)) (.o2 (.bin .neq) (.o1 .len (.o1 .ld1 (.o1 (.fld 1) (.t 2)))) (.o1 .len (.o1 .ld1 (.o1 (.fld 1) (.t 3)))))))]) (.cond 19 (.seq (.sts [(.set 4 (.c (.bool false)))]) .ret) .skip)) (.seq (.seq (.sts [(.chk [] (.c1 (.fld 1) (.t 2))),
    (.chk [] (.c1 .ld1 (.o1 (.fld 1) (.t 2)))),
    (.chk [] (.c1 .len (.o1 .ld1 (.o1 (.fld 1) (.t 2))))),
    (.set 22 (.o1 .len (.o1 .ld1 (.o1 (.fld 1) (.t 2))))),
    (.set 23 (.c (.int .i64 0)))]) (.block 0 (.loop plFactIs_L1))) (.seq (.sts [(.set 4 (.c (.bool true)))]) .ret))))
def plFactIs_E : Res := [(none, (.t 4))]
theorem plFactIs_C : Tryd.f42.body.bind (comp Tryd.prog plFactIs_M Tryd.f42.ntmps) = some plFactIs_S := by kernel_rfl
theorem plFactIs_R : resE Tryd.prog plFactIs_M Tryd.f42.results.toList = some plFactIs_E := by kernel_rfl
theorem plFactIs_H (G : Ctr) (hG : GOk Tryd.prog G) (a0 : Value) (a1 : Value) {h : H} {K : Value → H → Prop} {KP : List PanicEntry → H → Prop} (Hw : wpS G plFactIs_S (retQ plFactIs_E (callK K KP)) (envOf 0 [a0, a1] env0) h) : HCX Tryd.prog 42 [a0, a1] h K KP :=
  .inl ⟨by kernel_rfl, hc_of mixed hG Tryd.func42 plFactIs_C plFactIs_R (of_decide_eq_true (by kernel_rfl)) Hw⟩
end Go.Proofs.YtmnfhmbmifompaaDoor
end Merged
