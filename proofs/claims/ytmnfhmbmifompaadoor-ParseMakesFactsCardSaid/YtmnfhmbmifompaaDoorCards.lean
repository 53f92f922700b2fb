/-
  DERIVED. GIVEN WITH THE SEED: THE CARDS: each row of YtmnfhmbmifompaaDoorRows.lean that lists a variable, with what it lists TIED to the program's text (the seventh form; the later family's looks); each row that meets fmt, with fmt's text TOLD by the authors' own Lean function (tested against real Go, not proved from fmt's source: count such statements apart). THE CARD IS WHAT COUNTS. Prove the row's statement (the work); the ties are given (YtmnfhmbmifompaaDoorTie.lean); close each card by the builder's one call (the guide's Derived/Test/ToyasCard.lean, 'card_holds'). Laid BY PROGRAM, IN A SANDBOX (cutbox-door.mjs). By AI agents, Wed Nov 11 2026. No macro, syntax, notation, axiom, sorry.
-/
import Derived.Test.YtmnfhmbmifompaaDoorRows
import GoSem.ClaimSeven
namespace Go.Proofs.YtmnfhmbmifompaaDoor
namespace Rows

/-- THE TIED CARD OF 'edictlaw03.ParseOnes'. -/
def parseOnesCard : Claim7 := { stood := { row := parseOnesRow, standIns := [], harness := (true, "1e2d8db48a51e7325f945d4cb1775fd50628afe1db99434c1f927f2717b11aa0"), looks := true }, kinds := [], alts := [], laidByText := true, laidKinds := [.data, .data, .data, .sentinel, .sentinel, .data], laidTests := true, laidLooks := .later }
def ParseOnesCardSaid : Prop := Claim7.holds Tryd.pinned (.plain (OpenSpec.ofChange parseOnesSpec)) parseOnesCard

/-- THE TIED CARD OF 'edictlaw03.ParseFacts'. -/
def parseFactsCard : Claim7 := { stood := { row := parseFactsRow, standIns := [], harness := (true, "1e2d8db48a51e7325f945d4cb1775fd50628afe1db99434c1f927f2717b11aa0"), looks := true }, kinds := [], alts := [], laidByText := true, laidKinds := [.data, .data, .data, .sentinel, .sentinel, .data], laidTests := true, laidLooks := .later }
def ParseFactsCardSaid : Prop := Claim7.holds Tryd.pinned (.plain (OpenSpec.ofChange parseFactsSpec)) parseFactsCard

/-- THE TIED CARD OF 'edictlaw03.ParseMakes'. -/
def parseMakesCard : Claim7 := { stood := { row := parseMakesRow, standIns := [], harness := (true, "1e2d8db48a51e7325f945d4cb1775fd50628afe1db99434c1f927f2717b11aa0"), looks := true }, kinds := [], alts := [], laidByText := true, laidKinds := [.data, .data, .data, .sentinel, .sentinel, .data], laidTests := true, laidLooks := .later }
def ParseMakesCardSaid : Prop := Claim7.holds Tryd.pinned (.plain (OpenSpec.ofChange parseMakesSpec)) parseMakesCard

/-- THE TIED CARD OF 'edictlaw03.ParseSpells'. -/
def parseSpellsCard : Claim7 := { stood := { row := parseSpellsRow, standIns := [], harness := (true, "1e2d8db48a51e7325f945d4cb1775fd50628afe1db99434c1f927f2717b11aa0"), looks := true }, kinds := [], alts := [], laidByText := true, laidKinds := [.data, .data, .data, .sentinel, .sentinel, .data], laidTests := true, laidLooks := .later }
def ParseSpellsCardSaid : Prop := Claim7.holds Tryd.pinned (.plain (OpenSpec.ofChange parseSpellsSpec)) parseSpellsCard

/-- THE TIED CARD OF 'edictlaw03.ParseMakesQuery'. -/
def parseMakesQueryCard : Claim7 := { stood := { row := parseMakesQueryRow, standIns := [], harness := (true, "1e2d8db48a51e7325f945d4cb1775fd50628afe1db99434c1f927f2717b11aa0"), looks := true }, kinds := [], alts := [], laidByText := true, laidKinds := [.data, .data, .data, .sentinel, .sentinel, .data], laidTests := true, laidLooks := .later }
def ParseMakesQueryCardSaid : Prop := Claim7.holds Tryd.pinned (.plain (OpenSpec.ofChange parseMakesQuerySpec)) parseMakesQueryCard

/-- THE TIED CARD OF 'edictlaw03.ParseBodies'. -/
def parseBodiesCard : Claim7 := { stood := { row := parseBodiesRow, standIns := [], harness := (true, "1e2d8db48a51e7325f945d4cb1775fd50628afe1db99434c1f927f2717b11aa0"), looks := true }, kinds := [], alts := [], laidByText := true, laidKinds := [.data, .data, .data, .sentinel, .sentinel, .data], laidTests := true, laidLooks := .later }
def ParseBodiesCardSaid : Prop := Claim7.holds Tryd.pinned (.plain (OpenSpec.ofChange parseBodiesSpec)) parseBodiesCard

/-- THE TIED CARD OF 'edictlaw03.ParseJoins'. -/
def parseJoinsCard : Claim7 := { stood := { row := parseJoinsRow, standIns := [], harness := (true, "1e2d8db48a51e7325f945d4cb1775fd50628afe1db99434c1f927f2717b11aa0"), looks := true }, kinds := [], alts := [], laidByText := true, laidKinds := [.data, .data, .data, .sentinel, .sentinel, .data], laidTests := true, laidLooks := .later }
def ParseJoinsCardSaid : Prop := Claim7.holds Tryd.pinned (.plain (OpenSpec.ofChange parseJoinsSpec)) parseJoinsCard

/-- THE TIED CARD OF 'edictlaw03.ParseGround'. -/
def parseGroundCard : Claim7 := { stood := { row := parseGroundRow, standIns := [], harness := (true, "1e2d8db48a51e7325f945d4cb1775fd50628afe1db99434c1f927f2717b11aa0"), looks := true }, kinds := [], alts := [], laidByText := true, laidKinds := [.data, .data, .data, .sentinel, .sentinel, .data], laidTests := true, laidLooks := .later }
def ParseGroundCardSaid : Prop := Claim7.holds Tryd.pinned (.plain (OpenSpec.ofChange parseGroundSpec)) parseGroundCard

/-- THE TIED CARD OF 'edictlaw03.ParseSpellsFacts'. -/
def parseSpellsFactsCard : Claim7 := { stood := { row := parseSpellsFactsRow, standIns := [], harness := (true, "1e2d8db48a51e7325f945d4cb1775fd50628afe1db99434c1f927f2717b11aa0"), looks := true }, kinds := [], alts := [], laidByText := true, laidKinds := [.data, .data, .data, .sentinel, .sentinel, .data], laidTests := true, laidLooks := .later }
def ParseSpellsFactsCardSaid : Prop := Claim7.holds Tryd.pinned (.plain (OpenSpec.ofChange parseSpellsFactsSpec)) parseSpellsFactsCard

/-- THE TIED CARD OF 'edictlaw03.ParseMakesFacts'. -/
def parseMakesFactsCard : Claim7 := { stood := { row := parseMakesFactsRow, standIns := [], harness := (true, "1e2d8db48a51e7325f945d4cb1775fd50628afe1db99434c1f927f2717b11aa0"), looks := true }, kinds := [], alts := [], laidByText := true, laidKinds := [.data, .data, .data, .sentinel, .sentinel, .data], laidTests := true, laidLooks := .later }
def ParseMakesFactsCardSaid : Prop := Claim7.holds Tryd.pinned (.plain (OpenSpec.ofChange parseMakesFactsSpec)) parseMakesFactsCard

/-- THE TIED CARD OF 'edictlaw03.ParseOneOfFacts'. -/
def parseOneOfFactsCard : Claim7 := { stood := { row := parseOneOfFactsRow, standIns := [], harness := (true, "1e2d8db48a51e7325f945d4cb1775fd50628afe1db99434c1f927f2717b11aa0"), looks := true }, kinds := [], alts := [], laidByText := true, laidKinds := [.data, .data, .data, .sentinel, .sentinel, .data], laidTests := true, laidLooks := .later }
def ParseOneOfFactsCardSaid : Prop := Claim7.holds Tryd.pinned (.plain (OpenSpec.ofChange parseOneOfFactsSpec)) parseOneOfFactsCard

/-- THE TIED CARD OF 'edictlaw03.ParseStops'. -/
def parseStopsCard : Claim7 := { stood := { row := parseStopsRow, standIns := [], harness := (true, "1e2d8db48a51e7325f945d4cb1775fd50628afe1db99434c1f927f2717b11aa0"), looks := true }, kinds := [], alts := [], laidByText := true, laidKinds := [.data, .data, .data, .sentinel, .sentinel, .data], laidTests := true, laidLooks := .later }
def ParseStopsCardSaid : Prop := Claim7.holds Tryd.pinned (.plain (OpenSpec.ofChange parseStopsSpec)) parseStopsCard

/-- THE TIED CARD OF 'edictlaw03.ParseBehind'. -/
def parseBehindCard : Claim7 := { stood := { row := parseBehindRow, standIns := [], harness := (true, "1e2d8db48a51e7325f945d4cb1775fd50628afe1db99434c1f927f2717b11aa0"), looks := true }, kinds := [], alts := [], laidByText := true, laidKinds := [.data, .data, .data, .sentinel, .sentinel, .data], laidTests := true, laidLooks := .later }
def ParseBehindCardSaid : Prop := Claim7.holds Tryd.pinned (.plain (OpenSpec.ofChange parseBehindSpec)) parseBehindCard

/-- THE TIED CARD OF 'edictlaw03.ParseLimits'. -/
def parseLimitsCard : Claim7 := { stood := { row := parseLimitsRow, standIns := [], harness := (true, "1e2d8db48a51e7325f945d4cb1775fd50628afe1db99434c1f927f2717b11aa0"), looks := true }, kinds := [], alts := [], laidByText := true, laidKinds := [.data, .data, .data, .sentinel, .sentinel, .data], laidTests := true, laidLooks := .later }
def ParseLimitsCardSaid : Prop := Claim7.holds Tryd.pinned (.plain (OpenSpec.ofChange parseLimitsSpec)) parseLimitsCard

/-- THE TIED CARD OF 'edictlaw03.ParseLong'. -/
def parseLongCard : Claim7 := { stood := { row := parseLongRow, standIns := [], harness := (true, "1e2d8db48a51e7325f945d4cb1775fd50628afe1db99434c1f927f2717b11aa0"), looks := true }, kinds := [], alts := [], laidByText := true, laidKinds := [.data, .data, .data, .sentinel, .sentinel, .data], laidTests := true, laidLooks := .later }
def ParseLongCardSaid : Prop := Claim7.holds Tryd.pinned (.plain (OpenSpec.ofChange parseLongSpec)) parseLongCard

/-- THE TIED CARD OF 'edictlaw03.ParseOwn'. -/
def parseOwnCard : Claim7 := { stood := { row := parseOwnRow, standIns := [], harness := (true, "1e2d8db48a51e7325f945d4cb1775fd50628afe1db99434c1f927f2717b11aa0"), looks := true }, kinds := [], alts := [], laidByText := true, laidKinds := [.data, .data, .data, .sentinel, .sentinel, .data], laidTests := true, laidLooks := .later }
def ParseOwnCardSaid : Prop := Claim7.holds Tryd.pinned (.plain (OpenSpec.ofChange parseOwnSpec)) parseOwnCard

/-- THE SECOND FORM's CARD OF 'edictlaw03.ParseOnes'. -/
def parseOnesUptoCard : Claim7 := { stood := { row := parseOnesUptoRow, standIns := [], harness := (true, "1e2d8db48a51e7325f945d4cb1775fd50628afe1db99434c1f927f2717b11aa0"), looks := true }, kinds := [], alts := [], laidByText := true, laidKinds := [.data, .data, .data, .sentinel, .sentinel, .data], laidTests := true, laidLooks := .later }
def ParseOnesUptoCardSaid : Prop := Claim7.holds Tryd.pinned (.plain (OpenSpec.upto parseOnesSpec)) parseOnesUptoCard

/-- THE SECOND FORM's CARD OF 'edictlaw03.ParseFacts'. -/
def parseFactsUptoCard : Claim7 := { stood := { row := parseFactsUptoRow, standIns := [], harness := (true, "1e2d8db48a51e7325f945d4cb1775fd50628afe1db99434c1f927f2717b11aa0"), looks := true }, kinds := [], alts := [], laidByText := true, laidKinds := [.data, .data, .data, .sentinel, .sentinel, .data], laidTests := true, laidLooks := .later }
def ParseFactsUptoCardSaid : Prop := Claim7.holds Tryd.pinned (.plain (OpenSpec.upto parseFactsSpec)) parseFactsUptoCard

/-- THE SECOND FORM's CARD OF 'edictlaw03.ParseMakes'. -/
def parseMakesUptoCard : Claim7 := { stood := { row := parseMakesUptoRow, standIns := [], harness := (true, "1e2d8db48a51e7325f945d4cb1775fd50628afe1db99434c1f927f2717b11aa0"), looks := true }, kinds := [], alts := [], laidByText := true, laidKinds := [.data, .data, .data, .sentinel, .sentinel, .data], laidTests := true, laidLooks := .later }
def ParseMakesUptoCardSaid : Prop := Claim7.holds Tryd.pinned (.plain (OpenSpec.upto parseMakesSpec)) parseMakesUptoCard

/-- THE SECOND FORM's CARD OF 'edictlaw03.ParseSpells'. -/
def parseSpellsUptoCard : Claim7 := { stood := { row := parseSpellsUptoRow, standIns := [], harness := (true, "1e2d8db48a51e7325f945d4cb1775fd50628afe1db99434c1f927f2717b11aa0"), looks := true }, kinds := [], alts := [], laidByText := true, laidKinds := [.data, .data, .data, .sentinel, .sentinel, .data], laidTests := true, laidLooks := .later }
def ParseSpellsUptoCardSaid : Prop := Claim7.holds Tryd.pinned (.plain (OpenSpec.upto parseSpellsSpec)) parseSpellsUptoCard

/-- THE SECOND FORM's CARD OF 'edictlaw03.ParseMakesQuery'. -/
def parseMakesQueryUptoCard : Claim7 := { stood := { row := parseMakesQueryUptoRow, standIns := [], harness := (true, "1e2d8db48a51e7325f945d4cb1775fd50628afe1db99434c1f927f2717b11aa0"), looks := true }, kinds := [], alts := [], laidByText := true, laidKinds := [.data, .data, .data, .sentinel, .sentinel, .data], laidTests := true, laidLooks := .later }
def ParseMakesQueryUptoCardSaid : Prop := Claim7.holds Tryd.pinned (.plain (OpenSpec.upto parseMakesQuerySpec)) parseMakesQueryUptoCard

/-- THE SECOND FORM's CARD OF 'edictlaw03.ParseBodies'. -/
def parseBodiesUptoCard : Claim7 := { stood := { row := parseBodiesUptoRow, standIns := [], harness := (true, "1e2d8db48a51e7325f945d4cb1775fd50628afe1db99434c1f927f2717b11aa0"), looks := true }, kinds := [], alts := [], laidByText := true, laidKinds := [.data, .data, .data, .sentinel, .sentinel, .data], laidTests := true, laidLooks := .later }
def ParseBodiesUptoCardSaid : Prop := Claim7.holds Tryd.pinned (.plain (OpenSpec.upto parseBodiesSpec)) parseBodiesUptoCard

/-- THE SECOND FORM's CARD OF 'edictlaw03.ParseJoins'. -/
def parseJoinsUptoCard : Claim7 := { stood := { row := parseJoinsUptoRow, standIns := [], harness := (true, "1e2d8db48a51e7325f945d4cb1775fd50628afe1db99434c1f927f2717b11aa0"), looks := true }, kinds := [], alts := [], laidByText := true, laidKinds := [.data, .data, .data, .sentinel, .sentinel, .data], laidTests := true, laidLooks := .later }
def ParseJoinsUptoCardSaid : Prop := Claim7.holds Tryd.pinned (.plain (OpenSpec.upto parseJoinsSpec)) parseJoinsUptoCard

/-- THE SECOND FORM's CARD OF 'edictlaw03.ParseGround'. -/
def parseGroundUptoCard : Claim7 := { stood := { row := parseGroundUptoRow, standIns := [], harness := (true, "1e2d8db48a51e7325f945d4cb1775fd50628afe1db99434c1f927f2717b11aa0"), looks := true }, kinds := [], alts := [], laidByText := true, laidKinds := [.data, .data, .data, .sentinel, .sentinel, .data], laidTests := true, laidLooks := .later }
def ParseGroundUptoCardSaid : Prop := Claim7.holds Tryd.pinned (.plain (OpenSpec.upto parseGroundSpec)) parseGroundUptoCard

/-- THE SECOND FORM's CARD OF 'edictlaw03.ParseSpellsFacts'. -/
def parseSpellsFactsUptoCard : Claim7 := { stood := { row := parseSpellsFactsUptoRow, standIns := [], harness := (true, "1e2d8db48a51e7325f945d4cb1775fd50628afe1db99434c1f927f2717b11aa0"), looks := true }, kinds := [], alts := [], laidByText := true, laidKinds := [.data, .data, .data, .sentinel, .sentinel, .data], laidTests := true, laidLooks := .later }
def ParseSpellsFactsUptoCardSaid : Prop := Claim7.holds Tryd.pinned (.plain (OpenSpec.upto parseSpellsFactsSpec)) parseSpellsFactsUptoCard

/-- THE SECOND FORM's CARD OF 'edictlaw03.ParseMakesFacts'. -/
def parseMakesFactsUptoCard : Claim7 := { stood := { row := parseMakesFactsUptoRow, standIns := [], harness := (true, "1e2d8db48a51e7325f945d4cb1775fd50628afe1db99434c1f927f2717b11aa0"), looks := true }, kinds := [], alts := [], laidByText := true, laidKinds := [.data, .data, .data, .sentinel, .sentinel, .data], laidTests := true, laidLooks := .later }
def ParseMakesFactsUptoCardSaid : Prop := Claim7.holds Tryd.pinned (.plain (OpenSpec.upto parseMakesFactsSpec)) parseMakesFactsUptoCard

/-- THE SECOND FORM's CARD OF 'edictlaw03.ParseOneOfFacts'. -/
def parseOneOfFactsUptoCard : Claim7 := { stood := { row := parseOneOfFactsUptoRow, standIns := [], harness := (true, "1e2d8db48a51e7325f945d4cb1775fd50628afe1db99434c1f927f2717b11aa0"), looks := true }, kinds := [], alts := [], laidByText := true, laidKinds := [.data, .data, .data, .sentinel, .sentinel, .data], laidTests := true, laidLooks := .later }
def ParseOneOfFactsUptoCardSaid : Prop := Claim7.holds Tryd.pinned (.plain (OpenSpec.upto parseOneOfFactsSpec)) parseOneOfFactsUptoCard

/-- THE SECOND FORM's CARD OF 'edictlaw03.ParseStops'. -/
def parseStopsUptoCard : Claim7 := { stood := { row := parseStopsUptoRow, standIns := [], harness := (true, "1e2d8db48a51e7325f945d4cb1775fd50628afe1db99434c1f927f2717b11aa0"), looks := true }, kinds := [], alts := [], laidByText := true, laidKinds := [.data, .data, .data, .sentinel, .sentinel, .data], laidTests := true, laidLooks := .later }
def ParseStopsUptoCardSaid : Prop := Claim7.holds Tryd.pinned (.plain (OpenSpec.upto parseStopsSpec)) parseStopsUptoCard

/-- THE SECOND FORM's CARD OF 'edictlaw03.ParseBehind'. -/
def parseBehindUptoCard : Claim7 := { stood := { row := parseBehindUptoRow, standIns := [], harness := (true, "1e2d8db48a51e7325f945d4cb1775fd50628afe1db99434c1f927f2717b11aa0"), looks := true }, kinds := [], alts := [], laidByText := true, laidKinds := [.data, .data, .data, .sentinel, .sentinel, .data], laidTests := true, laidLooks := .later }
def ParseBehindUptoCardSaid : Prop := Claim7.holds Tryd.pinned (.plain (OpenSpec.upto parseBehindSpec)) parseBehindUptoCard

/-- THE SECOND FORM's CARD OF 'edictlaw03.ParseLimits'. -/
def parseLimitsUptoCard : Claim7 := { stood := { row := parseLimitsUptoRow, standIns := [], harness := (true, "1e2d8db48a51e7325f945d4cb1775fd50628afe1db99434c1f927f2717b11aa0"), looks := true }, kinds := [], alts := [], laidByText := true, laidKinds := [.data, .data, .data, .sentinel, .sentinel, .data], laidTests := true, laidLooks := .later }
def ParseLimitsUptoCardSaid : Prop := Claim7.holds Tryd.pinned (.plain (OpenSpec.upto parseLimitsSpec)) parseLimitsUptoCard

/-- THE SECOND FORM's CARD OF 'edictlaw03.ParseLong'. -/
def parseLongUptoCard : Claim7 := { stood := { row := parseLongUptoRow, standIns := [], harness := (true, "1e2d8db48a51e7325f945d4cb1775fd50628afe1db99434c1f927f2717b11aa0"), looks := true }, kinds := [], alts := [], laidByText := true, laidKinds := [.data, .data, .data, .sentinel, .sentinel, .data], laidTests := true, laidLooks := .later }
def ParseLongUptoCardSaid : Prop := Claim7.holds Tryd.pinned (.plain (OpenSpec.upto parseLongSpec)) parseLongUptoCard

/-- THE SECOND FORM's CARD OF 'edictlaw03.ParseOwn'. -/
def parseOwnUptoCard : Claim7 := { stood := { row := parseOwnUptoRow, standIns := [], harness := (true, "1e2d8db48a51e7325f945d4cb1775fd50628afe1db99434c1f927f2717b11aa0"), looks := true }, kinds := [], alts := [], laidByText := true, laidKinds := [.data, .data, .data, .sentinel, .sentinel, .data], laidTests := true, laidLooks := .later }
def ParseOwnUptoCardSaid : Prop := Claim7.holds Tryd.pinned (.plain (OpenSpec.upto parseOwnSpec)) parseOwnUptoCard
end Rows
end Go.Proofs.YtmnfhmbmifompaaDoor
