/- The laws' comparisons, at equal data: sameFact, sameAtom; and the law ParseOnes. -/
import Derived.Test.YtmnfhmbmifompaaGreatDoorPrF
import Derived.Test.YtmnfhmbmifompaaGreatDoorPlS
namespace Go.Proofs.YtmnfhmbmifompaaGreatDoor
open Go Go.Ev Edict
def C_law1 (vs : List Value) (h : H) (K : Value → H → Prop) : Prop := ∃ (u : U) (s : List UInt8), vs = [str s] ∧ s.length ≤ 9223372036854775807 ∧ LxG u h ∧ ∀ u' h', Step S0 u h u' h' → K (.bool true) h'
end Go.Proofs.YtmnfhmbmifompaaGreatDoor
