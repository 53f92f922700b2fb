/-
  DERIVED. GIVEN WITH THE SEED: THE CARDS: each row of YtbnkepecoeohjaaGreatDoorRows.lean that lists a variable, with what it lists TIED to the program's text (the seventh form; the later family's looks); each row that meets fmt, with fmt's text TOLD by the authors' own Lean function (tested against real Go, not proved from fmt's source: count such statements apart). THE CARD IS WHAT COUNTS. Prove the row's statement (the work); the ties are given (YtbnkepecoeohjaaGreatDoorTie.lean); close each card by the builder's one call (the guide's Derived/Test/ToyasCard.lean, 'card_holds'). Laid BY PROGRAM, IN A SANDBOX (cutbox-door.mjs). By AI agents, Wed Nov 11 2026. No macro, syntax, notation, axiom, sorry.
-/
import Derived.Test.YtbnkepecoeohjaaGreatDoorRows
import GoSem.ClaimSeven
namespace Go.Proofs.YtbnkepecoeohjaaGreatDoor
namespace Rows

/-- THE TIED CARD OF 'edicttop.TopPlan'. -/
def topPlanCard : Claim7 := { stood := { row := topPlanRow, standIns := [], harness := (true, "4ede9a4b97b98f3d899d1b507b2e4114ae5d9f4b510552237f6313a159bbe367"), looks := true }, kinds := [], alts := [], laidByText := true, laidKinds := [.data, .data, .data, .sentinel, .sentinel, .data, .data, .data], laidTests := true, laidLooks := .later }
def TopPlanCardSaid : Prop := Claim7.holds Tryz.pinned (.plain (OpenSpec.ofChange topPlanSpec)) topPlanCard

/-- THE SECOND FORM's CARD OF 'edicttop.TopPlan'. -/
def topPlanUptoCard : Claim7 := { stood := { row := topPlanUptoRow, standIns := [], harness := (true, "4ede9a4b97b98f3d899d1b507b2e4114ae5d9f4b510552237f6313a159bbe367"), looks := true }, kinds := [], alts := [], laidByText := true, laidKinds := [.data, .data, .data, .sentinel, .sentinel, .data, .data, .data], laidTests := true, laidLooks := .later }
def TopPlanUptoCardSaid : Prop := Claim7.holds Tryz.pinned (.plain (OpenSpec.upto topPlanSpec)) topPlanUptoCard
end Rows
end Go.Proofs.YtbnkepecoeohjaaGreatDoor
