/-
  DERIVED. GIVEN WITH THE SEED: THE CARDS: each row of YtlenjlidahnklaaDoorRows.lean that lists a variable, with what it lists TIED to the program's text (the seventh form; the later family's looks); each row that meets fmt, with fmt's text TOLD by the authors' own Lean function (tested against real Go, not proved from fmt's source: count such statements apart). THE CARD IS WHAT COUNTS. Prove the row's statement (the work); the ties are given (YtlenjlidahnklaaDoorTie.lean); close each card by the builder's one call (the guide's Derived/Test/ToyasCard.lean, 'card_holds'). Laid BY PROGRAM, IN A SANDBOX (cutbox-door.mjs). By AI agents, Wed Nov 11 2026. No macro, syntax, notation, axiom, sorry.
-/
import Derived.Test.YtlenjlidahnklaaDoorRows
import GoSem.ClaimSeven
namespace Go.Proofs.YtlenjlidahnklaaDoor
namespace Rows

/-- THE TIED CARD OF 'edictlaw03.ParseOwn'. -/
def parseOwnCard : Claim7 := { stood := { row := parseOwnRow, standIns := [], harness := (true, "371982dbca5fd502b2449dbfb0274e32620691ed2668d669a0a2ec99923369fe"), looks := true }, kinds := [], alts := [], laidByText := true, laidKinds := [.data, .data, .data, .sentinel, .sentinel, .data], laidTests := true, laidLooks := .later }
def ParseOwnCardSaid : Prop := Claim7.holds Tryd.pinned (.plain (OpenSpec.ofChange parseOwnSpec)) parseOwnCard

/-- THE SECOND FORM's CARD OF 'edictlaw03.ParseOwn'. -/
def parseOwnUptoCard : Claim7 := { stood := { row := parseOwnUptoRow, standIns := [], harness := (true, "371982dbca5fd502b2449dbfb0274e32620691ed2668d669a0a2ec99923369fe"), looks := true }, kinds := [], alts := [], laidByText := true, laidKinds := [.data, .data, .data, .sentinel, .sentinel, .data], laidTests := true, laidLooks := .later }
def ParseOwnUptoCardSaid : Prop := Claim7.holds Tryd.pinned (.plain (OpenSpec.upto parseOwnSpec)) parseOwnUptoCard
end Rows
end Go.Proofs.YtlenjlidahnklaaDoor
