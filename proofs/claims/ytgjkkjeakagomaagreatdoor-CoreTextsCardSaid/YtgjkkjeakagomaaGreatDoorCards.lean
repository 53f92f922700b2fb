/-
  DERIVED. GIVEN WITH THE SEED: THE CARDS: each row of YtgjkkjeakagomaaGreatDoorRows.lean that lists a variable, with what it lists TIED to the program's text (the seventh form; the later family's looks); each row that meets fmt, with fmt's text TOLD by the authors' own Lean function (tested against real Go, not proved from fmt's source: count such statements apart). THE CARD IS WHAT COUNTS. Prove the row's statement (the work); the ties are given (YtgjkkjeakagomaaGreatDoorTie.lean); close each card by the builder's one call (the guide's Derived/Test/ToyasCard.lean, 'card_holds'). Laid BY PROGRAM, IN A SANDBOX (cutbox-door.mjs). By AI agents, Wed Nov 11 2026. No macro, syntax, notation, axiom, sorry.
-/
import Derived.Test.YtgjkkjeakagomaaGreatDoorRows
import GoSem.ClaimSeven
namespace Go.Proofs.YtgjkkjeakagomaaGreatDoor
namespace Rows

/-- THE TIED CARD OF 'edictlaw07.CoreTexts'. -/
def coreTextsCard : Claim7 := { stood := { row := coreTextsRow, standIns := [], harness := (true, "a2c6219dc9bb046ad9dad4bb436457c833161f3d4791dbe9ab3a770ca5d7b13e"), looks := true }, kinds := [], alts := [], laidByText := true, laidKinds := [.data, .data, .data, .sentinel, .sentinel, .data], laidTests := true, laidLooks := .later }
def CoreTextsCardSaid : Prop := Claim7.holds Tryz.pinned (.plain (OpenSpec.ofChange coreTextsSpec)) coreTextsCard

/-- THE SECOND FORM's CARD OF 'edictlaw07.CoreTexts'. -/
def coreTextsUptoCard : Claim7 := { stood := { row := coreTextsUptoRow, standIns := [], harness := (true, "a2c6219dc9bb046ad9dad4bb436457c833161f3d4791dbe9ab3a770ca5d7b13e"), looks := true }, kinds := [], alts := [], laidByText := true, laidKinds := [.data, .data, .data, .sentinel, .sentinel, .data], laidTests := true, laidLooks := .later }
def CoreTextsUptoCardSaid : Prop := Claim7.holds Tryz.pinned (.plain (OpenSpec.upto coreTextsSpec)) coreTextsUptoCard
end Rows
end Go.Proofs.YtgjkkjeakagomaaGreatDoor
