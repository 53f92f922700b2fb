/-
  DERIVED. GIVEN WITH THE SEED: THE CARDS: each row of YteiopegaiohglaaDoorRows.lean that lists a variable, with what it lists TIED to the program's text (the seventh form; the later family's looks); each row that meets fmt, with fmt's text TOLD by the authors' own Lean function (tested against real Go, not proved from fmt's source: count such statements apart). THE CARD IS WHAT COUNTS. Prove the row's statement (the work); the ties are given (YteiopegaiohglaaDoorTie.lean); close each card by the builder's one call (the guide's Derived/Test/ToyasCard.lean, 'card_holds'). Laid BY PROGRAM, IN A SANDBOX (cutbox-door.mjs). By AI agents, Wed Nov 11 2026. No macro, syntax, notation, axiom, sorry.
-/
import Derived.Test.YteiopegaiohglaaDoorRows
import GoSem.ClaimSeven
namespace Go.Proofs.YteiopegaiohglaaDoor
namespace Rows

/-- THE TIED CARD OF 'edictlaw04.PrintGiven'. -/
def printGivenCard : Claim7 := { stood := { row := printGivenRow, standIns := [], harness := (true, "597591e701f52b974e72e34ed254704294477811dced5753f2fe4ae0b8991d2f"), looks := true }, kinds := [], alts := [], laidByText := true, laidKinds := [.data, .data, .data, .sentinel, .sentinel, .data], laidTests := true, laidLooks := .later }
def PrintGivenCardSaid : Prop := Claim7.holds Tryd.pinned (.plain (OpenSpec.ofChange printGivenSpec)) printGivenCard

/-- THE SECOND FORM's CARD OF 'edictlaw04.PrintGiven'. -/
def printGivenUptoCard : Claim7 := { stood := { row := printGivenUptoRow, standIns := [], harness := (true, "597591e701f52b974e72e34ed254704294477811dced5753f2fe4ae0b8991d2f"), looks := true }, kinds := [], alts := [], laidByText := true, laidKinds := [.data, .data, .data, .sentinel, .sentinel, .data], laidTests := true, laidLooks := .later }
def PrintGivenUptoCardSaid : Prop := Claim7.holds Tryd.pinned (.plain (OpenSpec.upto printGivenSpec)) printGivenUptoCard
end Rows
end Go.Proofs.YteiopegaiohglaaDoor
