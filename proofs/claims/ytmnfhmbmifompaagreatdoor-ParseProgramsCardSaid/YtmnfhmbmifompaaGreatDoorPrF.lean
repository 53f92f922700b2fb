/- The document's answer, walked: Fact. -/
import Derived.Test.YtmnfhmbmifompaaGreatDoorPrK
namespace Edict
theorem one_check {src : List UInt8} : (∀ e, parseF oneD src = .error e → checkF 20 src = e ∧ e.1 ≠ 0) ∧ ∀ a, parseF oneD src = .ok a → checkF 20 src = (0, 0) ∧ a = atomF (scanF src).1 ∧ (scanF src).1 ≠ [] := by
  unfold parseF checkF
  by_cases h : 65536 < src.length
  · rw [if_pos h, if_pos h]
    exact ⟨fun e q => by cases q; exact ⟨rfl, (show (1 : Int) ≠ 0 by decide)⟩, fun a q => by cases q⟩
  · rw [if_neg h, if_neg h]
    exact one_same (good_src (by omega))
end Edict
namespace Go.Proofs.YtmnfhmbmifompaaGreatDoor
open Go Go.Ev Edict
end Go.Proofs.YtmnfhmbmifompaaGreatDoor
