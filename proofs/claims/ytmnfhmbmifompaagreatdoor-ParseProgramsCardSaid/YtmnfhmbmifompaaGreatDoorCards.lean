/-
  DERIVED. GIVEN WITH THE SEED: THE CARDS: each row of YtmnfhmbmifompaaGreatDoorRows.lean that lists a variable, with what it lists TIED to the program's text (the seventh form; the later family's looks); each row that meets fmt, with fmt's text TOLD by the authors' own Lean function (tested against real Go, not proved from fmt's source: count such statements apart). THE CARD IS WHAT COUNTS. Prove the row's statement (the work); the ties are given (YtmnfhmbmifompaaGreatDoorTie.lean); close each card by the builder's one call (the guide's Derived/Test/ToyasCard.lean, 'card_holds'). Laid BY PROGRAM, IN A SANDBOX (cutbox-door.mjs). By AI agents, Wed Nov 11 2026. No macro, syntax, notation, axiom, sorry.
-/
import Derived.Test.YtmnfhmbmifompaaGreatDoorRows
import GoSem.ClaimSeven
namespace Go.Proofs.YtmnfhmbmifompaaGreatDoor
namespace Rows

/-- THE TIED CARD OF 'edictlaw03.ParseQueries'. -/
def parseQueriesCard : Claim7 := { stood := { row := parseQueriesRow, standIns := [], harness := (true, "205ed3ea46eb5db5cf2820fb2c182a86d9bdd0609ce481131f6abc1ef343f694"), looks := true }, kinds := [], alts := [], laidByText := true, laidKinds := [.data, .data, .data, .sentinel, .sentinel, .data], laidTests := true, laidLooks := .later }
def ParseQueriesCardSaid : Prop := Claim7.holds Tryz.pinned (.plain (OpenSpec.ofChange parseQueriesSpec)) parseQueriesCard

/-- THE TIED CARD OF 'edictlaw03.ParsePrograms'. -/
def parseProgramsCard : Claim7 := { stood := { row := parseProgramsRow, standIns := [], harness := (true, "205ed3ea46eb5db5cf2820fb2c182a86d9bdd0609ce481131f6abc1ef343f694"), looks := true }, kinds := [], alts := [], laidByText := true, laidKinds := [.data, .data, .data, .sentinel, .sentinel, .data], laidTests := true, laidLooks := .later }
def ParseProgramsCardSaid : Prop := Claim7.holds Tryz.pinned (.plain (OpenSpec.ofChange parseProgramsSpec)) parseProgramsCard

/-- THE SECOND FORM's CARD OF 'edictlaw03.ParseQueries'. -/
def parseQueriesUptoCard : Claim7 := { stood := { row := parseQueriesUptoRow, standIns := [], harness := (true, "205ed3ea46eb5db5cf2820fb2c182a86d9bdd0609ce481131f6abc1ef343f694"), looks := true }, kinds := [], alts := [], laidByText := true, laidKinds := [.data, .data, .data, .sentinel, .sentinel, .data], laidTests := true, laidLooks := .later }
def ParseQueriesUptoCardSaid : Prop := Claim7.holds Tryz.pinned (.plain (OpenSpec.upto parseQueriesSpec)) parseQueriesUptoCard

/-- THE SECOND FORM's CARD OF 'edictlaw03.ParsePrograms'. -/
def parseProgramsUptoCard : Claim7 := { stood := { row := parseProgramsUptoRow, standIns := [], harness := (true, "205ed3ea46eb5db5cf2820fb2c182a86d9bdd0609ce481131f6abc1ef343f694"), looks := true }, kinds := [], alts := [], laidByText := true, laidKinds := [.data, .data, .data, .sentinel, .sentinel, .data], laidTests := true, laidLooks := .later }
def ParseProgramsUptoCardSaid : Prop := Claim7.holds Tryz.pinned (.plain (OpenSpec.upto parseProgramsSpec)) parseProgramsUptoCard
end Rows
end Go.Proofs.YtmnfhmbmifompaaGreatDoor
