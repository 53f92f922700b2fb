/- The document's answer, walked: Facts. -/
import Derived.Test.YtmnfhmbmifompaaGreatDoorPrT
import Derived.Test.YtmnfhmbmifompaaGreatDoorPsFs
namespace Edict
theorem facts_check {src : List UInt8} : (∀ e, parseF (fun b l => factsD b [] l) src = .error e → checkF 15 src = e ∧ e.1 ≠ 0) ∧ ∀ a, parseF (fun b l => factsD b [] l) src = .ok a → checkF 15 src = (0, 0) ∧ a = (sentF (scanF src).1).map atomF ∧ a.length ≤ 4096 ∧ ∀ s ∈ sentF (scanF src).1, s ≠ [] := by
  unfold parseF checkF
  by_cases h : 65536 < src.length
  · rw [if_pos h, if_pos h]
    exact ⟨fun e q => by cases q; exact ⟨rfl, (show (1 : Int) ≠ 0 by decide)⟩, fun a q => by cases q⟩
  · rw [if_neg h, if_neg h]
    exact facts_same (good_src (by omega))
theorem sentF_each {l : List Tok} {s : List Tok} (hs : s ∈ sentF l) : s.length ≤ l.length := by
  have := cutF_each 8 l 0 [] s (List.dropLast_subset _ hs)
  simpa using this
end Edict
namespace Go.Proofs.YtmnfhmbmifompaaGreatDoor
open Go Go.Ev Edict
end Go.Proofs.YtmnfhmbmifompaaGreatDoor
