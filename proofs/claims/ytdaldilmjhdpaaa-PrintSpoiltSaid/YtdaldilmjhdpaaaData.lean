/- The plain types, as they lie in the heap. -/
import Derived.Test.YtdaldilmjhdpaaaEvC
namespace Edict
abbrev Term := Int × Int × List UInt8 × Int
abbrev Const := Int × Int × List UInt8
abbrev Slot := Bool × Int
abbrev Atom := List UInt8 × List Term × Int
abbrev Literal := Int × Atom × Int × Term × Term × Int
abbrev Clause := Atom × List Literal
abbrev Pattern := Int × List Slot
abbrev Test := Int × Slot × Slot
abbrev Rule := Pattern × List Pattern × List Test × List Pattern × List (List UInt8) × Int
abbrev Pred := List UInt8 × Int
abbrev Row := Int × List Int
abbrev Core := List Pred × List Const × List Rule × List Row
abbrev Fact := List UInt8 × List Const
def Term.enc (t : Term) : List Go.Value := [.int .i64 t.1, .int .i64 t.2.1, Go.Ev.str t.2.2.1, .int .i64 t.2.2.2]
end Edict
namespace Go.Ev
open Go Edict
theorem rep_const {u : U} {h : H} {k : Const} {cs : List Value} : Rep.rep u h k cs = (cs = [.int .i64 k.1, .int .i64 k.2.1, str k.2.2]) := by simp [rep_prod, rep_int, rep_str]
theorem rep_slot {u : U} {h : H} {k : Slot} {cs : List Value} : Rep.rep u h k cs = (cs = [.bool k.1, .int .i64 k.2]) := by simp [rep_prod, rep_int, rep_bool]
theorem rep_term {u : U} {h : H} {k : Term} {cs : List Value} : Rep.rep u h k cs = (cs = Term.enc k) := by simp [rep_prod, rep_int, rep_str, Term.enc]
theorem rep_pred {u : U} {h : H} {k : Pred} {cs : List Value} : Rep.rep u h k cs = (cs = [str k.1, .int .i64 k.2]) := by simp [rep_prod, rep_int, rep_str]
theorem rep_test {u : U} {h : H} {k : Test} {cs : List Value} : Rep.rep u h k cs = (cs = [.int .i64 k.1, .bool k.2.1.1, .int .i64 k.2.1.2, .bool k.2.2.1, .int .i64 k.2.2.2]) := by simp [rep_prod, rep_int, rep_bool]
theorem rep_atom {u : U} {h : H} {k : Atom} {cs : List Value} : Rep.rep u h k cs = ∃ v, cs = [str k.1, v, .int .i64 k.2.2] ∧ IsSl u h v k.2.1 := by
  simp only [rep_prod, rep_int, rep_str, rep_list]; apply propext; constructor
  · rintro ⟨_, _, rfl, rfl, _, _, rfl, ⟨v, rfl, hs⟩, rfl⟩; exact ⟨v, rfl, hs⟩
  · rintro ⟨v, rfl, hs⟩; exact ⟨_, _, rfl, rfl, _, _, rfl, ⟨v, rfl, hs⟩, rfl⟩
theorem rep_pattern {u : U} {h : H} {k : Pattern} {cs : List Value} : Rep.rep u h k cs = ∃ v, cs = [.int .i64 k.1, v] ∧ IsSl u h v k.2 := by
  simp only [rep_prod, rep_int, rep_list]; apply propext; constructor
  · rintro ⟨_, _, rfl, rfl, v, rfl, hs⟩; exact ⟨v, rfl, hs⟩
  · rintro ⟨v, rfl, hs⟩; exact ⟨_, _, rfl, rfl, v, rfl, hs⟩
theorem rep_row {u : U} {h : H} {k : Row} {cs : List Value} : Rep.rep u h k cs = ∃ v, cs = [.int .i64 k.1, v] ∧ IsSl u h v k.2 := by
  simp only [rep_prod, rep_int, rep_list]; apply propext; constructor
  · rintro ⟨_, _, rfl, rfl, v, rfl, hs⟩; exact ⟨v, rfl, hs⟩
  · rintro ⟨v, rfl, hs⟩; exact ⟨_, _, rfl, rfl, v, rfl, hs⟩
theorem rep_fact {u : U} {h : H} {k : Fact} {cs : List Value} : Rep.rep u h k cs = ∃ v, cs = [str k.1, v] ∧ IsSl u h v k.2 := by
  simp only [rep_prod, rep_str, rep_list]; apply propext; constructor
  · rintro ⟨_, _, rfl, rfl, v, rfl, hs⟩; exact ⟨v, rfl, hs⟩
  · rintro ⟨v, rfl, hs⟩; exact ⟨_, _, rfl, rfl, v, rfl, hs⟩
theorem rep_literal {u : U} {h : H} {k : Literal} {cs : List Value} : Rep.rep u h k cs = ∃ v, cs = .int .i64 k.1 :: str k.2.1.1 :: v :: .int .i64 k.2.1.2.2 :: .int .i64 k.2.2.1 :: (Term.enc k.2.2.2.1 ++ (Term.enc k.2.2.2.2.1 ++ [.int .i64 k.2.2.2.2.2])) ∧ IsSl u h v k.2.1.2.1 := by
  rw [rep_prod]; simp only [rep_prod (β := Int × Term × Term × Int), rep_prod (β := Term × Term × Int), rep_prod (β := Term × Int), rep_prod (α := Term) (β := Int), rep_atom, rep_term, rep_int]; apply propext; constructor
  · rintro ⟨_, _, rfl, rfl, _, _, rfl, ⟨v, rfl, hs⟩, _, _, rfl, rfl, _, _, rfl, rfl, _, _, rfl, rfl, rfl⟩; exact ⟨v, rfl, hs⟩
  · rintro ⟨v, rfl, hs⟩; exact ⟨_, _, rfl, rfl, _, _, rfl, ⟨v, rfl, hs⟩, _, _, rfl, rfl, _, _, rfl, rfl, _, _, rfl, rfl, rfl⟩
theorem rep_clause {u : U} {h : H} {k : Clause} {cs : List Value} : Rep.rep u h k cs = ∃ v w, cs = [str k.1.1, v, .int .i64 k.1.2.2, w] ∧ IsSl u h v k.1.2.1 ∧ IsSl u h w k.2 := by
  rw [rep_prod]; simp only [rep_atom, rep_list]; apply propext; constructor
  · rintro ⟨_, _, rfl, ⟨v, rfl, hs⟩, w, rfl, ht⟩; exact ⟨v, w, rfl, hs, ht⟩
  · rintro ⟨v, w, rfl, hs, ht⟩; exact ⟨_, _, rfl, ⟨v, rfl, hs⟩, w, rfl, ht⟩
theorem rep_rule {u : U} {h : H} {k : Rule} {cs : List Value} : Rep.rep u h k cs = ∃ v0 v1 v2 v3 v4, cs = [.int .i64 k.1.1, v0, v1, v2, v3, v4, .int .i64 k.2.2.2.2.2] ∧ IsSl u h v0 k.1.2 ∧ IsSl u h v1 k.2.1 ∧ IsSl u h v2 k.2.2.1 ∧ IsSl u h v3 k.2.2.2.1 ∧ IsSl u h v4 k.2.2.2.2.1 := by
  rw [rep_prod]; simp only [rep_prod (β := List Test × List Pattern × List (List UInt8) × Int), rep_prod (β := List Pattern × List (List UInt8) × Int), rep_prod (β := List (List UInt8) × Int), rep_prod (α := List (List UInt8)) (β := Int), rep_pattern, rep_list, rep_int]; apply propext; constructor
  · rintro ⟨_, _, rfl, ⟨v0, rfl, h0⟩, _, _, rfl, ⟨v1, rfl, h1⟩, _, _, rfl, ⟨v2, rfl, h2⟩, _, _, rfl, ⟨v3, rfl, h3⟩, _, _, rfl, ⟨v4, rfl, h4⟩, rfl⟩; exact ⟨v0, v1, v2, v3, v4, rfl, h0, h1, h2, h3, h4⟩
  · rintro ⟨v0, v1, v2, v3, v4, rfl, h0, h1, h2, h3, h4⟩; exact ⟨_, _, rfl, ⟨v0, rfl, h0⟩, _, _, rfl, ⟨v1, rfl, h1⟩, _, _, rfl, ⟨v2, rfl, h2⟩, _, _, rfl, ⟨v3, rfl, h3⟩, _, _, rfl, ⟨v4, rfl, h4⟩, rfl⟩
theorem sz_clause : Rep.sz Clause = 4 := rfl
theorem sz_const : Rep.sz Const = 3 := rfl
theorem sz_slot : Rep.sz Slot = 2 := rfl
theorem sz_term : Rep.sz Term = 4 := rfl
theorem sz_pred : Rep.sz Pred = 2 := rfl
theorem sz_test : Rep.sz Test = 5 := rfl
theorem sz_atom : Rep.sz Atom = 3 := rfl
theorem sz_pattern : Rep.sz Pattern = 2 := rfl
theorem sz_literal : Rep.sz Literal = 14 := rfl
theorem sz_rule : Rep.sz Rule = 7 := rfl
theorem sz_row : Rep.sz Row = 2 := rfl
end Go.Ev
