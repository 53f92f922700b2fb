/-
  DERIVED. GIVEN WITH THE SEED: THE CARDS: each row of YtbkpmdgeeolifaaDoorRows.lean that lists a variable, with what it lists TIED to the program's text (the seventh form; the later family's looks); each row that meets fmt, with fmt's text TOLD by the authors' own Lean function (tested against real Go, not proved from fmt's source: count such statements apart). THE CARD IS WHAT COUNTS. Prove the row's statement (the work); the ties are given (YtbkpmdgeeolifaaDoorTie.lean); close each card by the builder's one call (the guide's Derived/Test/ToyasCard.lean, 'card_holds'). Laid BY PROGRAM, IN A SANDBOX (cutbox-door.mjs). By AI agents, Wed Nov 11 2026. No macro, syntax, notation, axiom, sorry.
-/
import Derived.Test.YtbkpmdgeeolifaaDoorRows
import GoSem.ClaimSeven
namespace Go.Proofs.YtbkpmdgeeolifaaDoor
namespace Rows

/-- THE TIED CARD OF 'edictlaw02.LexEach'. -/
def lexEachCard : Claim7 := { stood := { row := lexEachRow, standIns := [], harness := (true, "17b216a96f1f413c1b80859cda764f1c24ed26920ff4a7cedfd2bd6a83ba9c47"), looks := true }, kinds := [], alts := [], laidByText := true, laidKinds := [.data, .data, .data, .sentinel, .sentinel, .data], laidTests := true, laidLooks := .later }
def LexEachCardSaid : Prop := Claim7.holds Tryd.pinned (.plain (OpenSpec.ofChange lexEachSpec)) lexEachCard

/-- THE TIED CARD OF 'edictlaw02.LexNames'. -/
def lexNamesCard : Claim7 := { stood := { row := lexNamesRow, standIns := [], harness := (true, "17b216a96f1f413c1b80859cda764f1c24ed26920ff4a7cedfd2bd6a83ba9c47"), looks := true }, kinds := [], alts := [], laidByText := true, laidKinds := [.data, .data, .data, .sentinel, .sentinel, .data], laidTests := true, laidLooks := .later }
def LexNamesCardSaid : Prop := Claim7.holds Tryd.pinned (.plain (OpenSpec.ofChange lexNamesSpec)) lexNamesCard

/-- THE TIED CARD OF 'edictlaw02.LexScan'. -/
def lexScanCard : Claim7 := { stood := { row := lexScanRow, standIns := [], harness := (true, "17b216a96f1f413c1b80859cda764f1c24ed26920ff4a7cedfd2bd6a83ba9c47"), looks := true }, kinds := [], alts := [], laidByText := true, laidKinds := [.data, .data, .data, .sentinel, .sentinel, .data], laidTests := true, laidLooks := .later }
def LexScanCardSaid : Prop := Claim7.holds Tryd.pinned (.plain (OpenSpec.ofChange lexScanSpec)) lexScanCard

/-- THE TIED CARD OF 'edictlaw02.LexAlone'. -/
def lexAloneCard : Claim7 := { stood := { row := lexAloneRow, standIns := [], harness := (true, "17b216a96f1f413c1b80859cda764f1c24ed26920ff4a7cedfd2bd6a83ba9c47"), looks := true }, kinds := [], alts := [], laidByText := true, laidKinds := [.data, .data, .data, .sentinel, .sentinel, .data], laidTests := true, laidLooks := .later }
def LexAloneCardSaid : Prop := Claim7.holds Tryd.pinned (.plain (OpenSpec.ofChange lexAloneSpec)) lexAloneCard

/-- THE TIED CARD OF 'edictlaw02.LexSpaced'. -/
def lexSpacedCard : Claim7 := { stood := { row := lexSpacedRow, standIns := [], harness := (true, "17b216a96f1f413c1b80859cda764f1c24ed26920ff4a7cedfd2bd6a83ba9c47"), looks := true }, kinds := [], alts := [], laidByText := true, laidKinds := [.data, .data, .data, .sentinel, .sentinel, .data], laidTests := true, laidLooks := .later }
def LexSpacedCardSaid : Prop := Claim7.holds Tryd.pinned (.plain (OpenSpec.ofChange lexSpacedSpec)) lexSpacedCard

/-- THE TIED CARD OF 'edictlaw02.LexMore'. -/
def lexMoreCard : Claim7 := { stood := { row := lexMoreRow, standIns := [], harness := (true, "17b216a96f1f413c1b80859cda764f1c24ed26920ff4a7cedfd2bd6a83ba9c47"), looks := true }, kinds := [], alts := [], laidByText := true, laidKinds := [.data, .data, .data, .sentinel, .sentinel, .data], laidTests := true, laidLooks := .later }
def LexMoreCardSaid : Prop := Claim7.holds Tryd.pinned (.plain (OpenSpec.ofChange lexMoreSpec)) lexMoreCard

/-- THE TIED CARD OF 'edictlaw02.LexFirst'. -/
def lexFirstCard : Claim7 := { stood := { row := lexFirstRow, standIns := [], harness := (true, "17b216a96f1f413c1b80859cda764f1c24ed26920ff4a7cedfd2bd6a83ba9c47"), looks := true }, kinds := [], alts := [], laidByText := true, laidKinds := [.data, .data, .data, .sentinel, .sentinel, .data], laidTests := true, laidLooks := .later }
def LexFirstCardSaid : Prop := Claim7.holds Tryd.pinned (.plain (OpenSpec.ofChange lexFirstSpec)) lexFirstCard

/-- THE TIED CARD OF 'edictlaw02.LexStops'. -/
def lexStopsCard : Claim7 := { stood := { row := lexStopsRow, standIns := [], harness := (true, "17b216a96f1f413c1b80859cda764f1c24ed26920ff4a7cedfd2bd6a83ba9c47"), looks := true }, kinds := [], alts := [], laidByText := true, laidKinds := [.data, .data, .data, .sentinel, .sentinel, .data], laidTests := true, laidLooks := .later }
def LexStopsCardSaid : Prop := Claim7.holds Tryd.pinned (.plain (OpenSpec.ofChange lexStopsSpec)) lexStopsCard

/-- THE TIED CARD OF 'edictlaw02.LexSpelled'. -/
def lexSpelledCard : Claim7 := { stood := { row := lexSpelledRow, standIns := [], harness := (true, "17b216a96f1f413c1b80859cda764f1c24ed26920ff4a7cedfd2bd6a83ba9c47"), looks := true }, kinds := [], alts := [], laidByText := true, laidKinds := [.data, .data, .data, .sentinel, .sentinel, .data], laidTests := true, laidLooks := .later }
def LexSpelledCardSaid : Prop := Claim7.holds Tryd.pinned (.plain (OpenSpec.ofChange lexSpelledSpec)) lexSpelledCard

/-- THE TIED CARD OF 'edictlaw02.LexGaps'. -/
def lexGapsCard : Claim7 := { stood := { row := lexGapsRow, standIns := [], harness := (true, "17b216a96f1f413c1b80859cda764f1c24ed26920ff4a7cedfd2bd6a83ba9c47"), looks := true }, kinds := [], alts := [], laidByText := true, laidKinds := [.data, .data, .data, .sentinel, .sentinel, .data], laidTests := true, laidLooks := .later }
def LexGapsCardSaid : Prop := Claim7.holds Tryd.pinned (.plain (OpenSpec.ofChange lexGapsSpec)) lexGapsCard

/-- THE TIED CARD OF 'edictlaw02.LexNothing'. -/
def lexNothingCard : Claim7 := { stood := { row := lexNothingRow, standIns := [], harness := (true, "17b216a96f1f413c1b80859cda764f1c24ed26920ff4a7cedfd2bd6a83ba9c47"), looks := true }, kinds := [], alts := [], laidByText := true, laidKinds := [.data, .data, .data, .sentinel, .sentinel, .data], laidTests := true, laidLooks := .later }
def LexNothingCardSaid : Prop := Claim7.holds Tryd.pinned (.plain (OpenSpec.ofChange lexNothingSpec)) lexNothingCard

/-- THE TIED CARD OF 'edictlaw02.LexAll'. -/
def lexAllCard : Claim7 := { stood := { row := lexAllRow, standIns := [], harness := (true, "17b216a96f1f413c1b80859cda764f1c24ed26920ff4a7cedfd2bd6a83ba9c47"), looks := true }, kinds := [], alts := [], laidByText := true, laidKinds := [.data, .data, .data, .sentinel, .sentinel, .data], laidTests := true, laidLooks := .later }
def LexAllCardSaid : Prop := Claim7.holds Tryd.pinned (.plain (OpenSpec.ofChange lexAllSpec)) lexAllCard

/-- THE SECOND FORM's CARD OF 'edictlaw02.LexEach'. -/
def lexEachUptoCard : Claim7 := { stood := { row := lexEachUptoRow, standIns := [], harness := (true, "17b216a96f1f413c1b80859cda764f1c24ed26920ff4a7cedfd2bd6a83ba9c47"), looks := true }, kinds := [], alts := [], laidByText := true, laidKinds := [.data, .data, .data, .sentinel, .sentinel, .data], laidTests := true, laidLooks := .later }
def LexEachUptoCardSaid : Prop := Claim7.holds Tryd.pinned (.plain (OpenSpec.upto lexEachSpec)) lexEachUptoCard

/-- THE SECOND FORM's CARD OF 'edictlaw02.LexNames'. -/
def lexNamesUptoCard : Claim7 := { stood := { row := lexNamesUptoRow, standIns := [], harness := (true, "17b216a96f1f413c1b80859cda764f1c24ed26920ff4a7cedfd2bd6a83ba9c47"), looks := true }, kinds := [], alts := [], laidByText := true, laidKinds := [.data, .data, .data, .sentinel, .sentinel, .data], laidTests := true, laidLooks := .later }
def LexNamesUptoCardSaid : Prop := Claim7.holds Tryd.pinned (.plain (OpenSpec.upto lexNamesSpec)) lexNamesUptoCard

/-- THE SECOND FORM's CARD OF 'edictlaw02.LexScan'. -/
def lexScanUptoCard : Claim7 := { stood := { row := lexScanUptoRow, standIns := [], harness := (true, "17b216a96f1f413c1b80859cda764f1c24ed26920ff4a7cedfd2bd6a83ba9c47"), looks := true }, kinds := [], alts := [], laidByText := true, laidKinds := [.data, .data, .data, .sentinel, .sentinel, .data], laidTests := true, laidLooks := .later }
def LexScanUptoCardSaid : Prop := Claim7.holds Tryd.pinned (.plain (OpenSpec.upto lexScanSpec)) lexScanUptoCard

/-- THE SECOND FORM's CARD OF 'edictlaw02.LexAlone'. -/
def lexAloneUptoCard : Claim7 := { stood := { row := lexAloneUptoRow, standIns := [], harness := (true, "17b216a96f1f413c1b80859cda764f1c24ed26920ff4a7cedfd2bd6a83ba9c47"), looks := true }, kinds := [], alts := [], laidByText := true, laidKinds := [.data, .data, .data, .sentinel, .sentinel, .data], laidTests := true, laidLooks := .later }
def LexAloneUptoCardSaid : Prop := Claim7.holds Tryd.pinned (.plain (OpenSpec.upto lexAloneSpec)) lexAloneUptoCard

/-- THE SECOND FORM's CARD OF 'edictlaw02.LexSpaced'. -/
def lexSpacedUptoCard : Claim7 := { stood := { row := lexSpacedUptoRow, standIns := [], harness := (true, "17b216a96f1f413c1b80859cda764f1c24ed26920ff4a7cedfd2bd6a83ba9c47"), looks := true }, kinds := [], alts := [], laidByText := true, laidKinds := [.data, .data, .data, .sentinel, .sentinel, .data], laidTests := true, laidLooks := .later }
def LexSpacedUptoCardSaid : Prop := Claim7.holds Tryd.pinned (.plain (OpenSpec.upto lexSpacedSpec)) lexSpacedUptoCard

/-- THE SECOND FORM's CARD OF 'edictlaw02.LexMore'. -/
def lexMoreUptoCard : Claim7 := { stood := { row := lexMoreUptoRow, standIns := [], harness := (true, "17b216a96f1f413c1b80859cda764f1c24ed26920ff4a7cedfd2bd6a83ba9c47"), looks := true }, kinds := [], alts := [], laidByText := true, laidKinds := [.data, .data, .data, .sentinel, .sentinel, .data], laidTests := true, laidLooks := .later }
def LexMoreUptoCardSaid : Prop := Claim7.holds Tryd.pinned (.plain (OpenSpec.upto lexMoreSpec)) lexMoreUptoCard

/-- THE SECOND FORM's CARD OF 'edictlaw02.LexFirst'. -/
def lexFirstUptoCard : Claim7 := { stood := { row := lexFirstUptoRow, standIns := [], harness := (true, "17b216a96f1f413c1b80859cda764f1c24ed26920ff4a7cedfd2bd6a83ba9c47"), looks := true }, kinds := [], alts := [], laidByText := true, laidKinds := [.data, .data, .data, .sentinel, .sentinel, .data], laidTests := true, laidLooks := .later }
def LexFirstUptoCardSaid : Prop := Claim7.holds Tryd.pinned (.plain (OpenSpec.upto lexFirstSpec)) lexFirstUptoCard

/-- THE SECOND FORM's CARD OF 'edictlaw02.LexStops'. -/
def lexStopsUptoCard : Claim7 := { stood := { row := lexStopsUptoRow, standIns := [], harness := (true, "17b216a96f1f413c1b80859cda764f1c24ed26920ff4a7cedfd2bd6a83ba9c47"), looks := true }, kinds := [], alts := [], laidByText := true, laidKinds := [.data, .data, .data, .sentinel, .sentinel, .data], laidTests := true, laidLooks := .later }
def LexStopsUptoCardSaid : Prop := Claim7.holds Tryd.pinned (.plain (OpenSpec.upto lexStopsSpec)) lexStopsUptoCard

/-- THE SECOND FORM's CARD OF 'edictlaw02.LexSpelled'. -/
def lexSpelledUptoCard : Claim7 := { stood := { row := lexSpelledUptoRow, standIns := [], harness := (true, "17b216a96f1f413c1b80859cda764f1c24ed26920ff4a7cedfd2bd6a83ba9c47"), looks := true }, kinds := [], alts := [], laidByText := true, laidKinds := [.data, .data, .data, .sentinel, .sentinel, .data], laidTests := true, laidLooks := .later }
def LexSpelledUptoCardSaid : Prop := Claim7.holds Tryd.pinned (.plain (OpenSpec.upto lexSpelledSpec)) lexSpelledUptoCard

/-- THE SECOND FORM's CARD OF 'edictlaw02.LexGaps'. -/
def lexGapsUptoCard : Claim7 := { stood := { row := lexGapsUptoRow, standIns := [], harness := (true, "17b216a96f1f413c1b80859cda764f1c24ed26920ff4a7cedfd2bd6a83ba9c47"), looks := true }, kinds := [], alts := [], laidByText := true, laidKinds := [.data, .data, .data, .sentinel, .sentinel, .data], laidTests := true, laidLooks := .later }
def LexGapsUptoCardSaid : Prop := Claim7.holds Tryd.pinned (.plain (OpenSpec.upto lexGapsSpec)) lexGapsUptoCard

/-- THE SECOND FORM's CARD OF 'edictlaw02.LexNothing'. -/
def lexNothingUptoCard : Claim7 := { stood := { row := lexNothingUptoRow, standIns := [], harness := (true, "17b216a96f1f413c1b80859cda764f1c24ed26920ff4a7cedfd2bd6a83ba9c47"), looks := true }, kinds := [], alts := [], laidByText := true, laidKinds := [.data, .data, .data, .sentinel, .sentinel, .data], laidTests := true, laidLooks := .later }
def LexNothingUptoCardSaid : Prop := Claim7.holds Tryd.pinned (.plain (OpenSpec.upto lexNothingSpec)) lexNothingUptoCard

/-- THE SECOND FORM's CARD OF 'edictlaw02.LexAll'. -/
def lexAllUptoCard : Claim7 := { stood := { row := lexAllUptoRow, standIns := [], harness := (true, "17b216a96f1f413c1b80859cda764f1c24ed26920ff4a7cedfd2bd6a83ba9c47"), looks := true }, kinds := [], alts := [], laidByText := true, laidKinds := [.data, .data, .data, .sentinel, .sentinel, .data], laidTests := true, laidLooks := .later }
def LexAllUptoCardSaid : Prop := Claim7.holds Tryd.pinned (.plain (OpenSpec.upto lexAllSpec)) lexAllUptoCard
end Rows
end Go.Proofs.YtbkpmdgeeolifaaDoor
