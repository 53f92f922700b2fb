/-
  NARROWER THAN 'FOR EVERY INPUT', by the rows' own cells (each row's printed sentence says how): ParseOnes: laid · ParseFacts: laid · ParseMakes: laid · ParseSpells: laid · ParseMakesQuery: laid · ParseBodies: laid · ParseJoins: laid · ParseGround: laid · ParseSpellsFacts: laid · ParseMakesFacts: laid · ParseOneOfFacts: laid · ParseStops: laid · ParseBehind: laid · ParseLimits: laid · ParseLong: laid · ParseOwn: laid.
  DERIVED. THE GIVEN ROWS OF THIS SEAT. 16 by the template 'for every input the law returns true; each argument reads behind the call as it read before'; 0 by the template 'total and deterministic' (their statements: YtmnfhmbmifompaaDoorTotals.lean).
  GIVEN WITH THE SEED: the statements are not yours to turn. If you find one false, say at which input.
  Laid BY PROGRAM, IN A SANDBOX (cutbox-rows.mjs): the forced cells as the released guide's own fill.sh prints them over the translation 4cd8b6e010486d19… (all of the seat's roots in one cut). By AI agents, Wed Nov 11 2026. No macro, syntax, notation, axiom, sorry.
-/
import Derived.Test.YtmnfhmbmifompaaDoorChecked
import GoSem.Claim
import GoSem.ClaimJoined
import GoSem.ClaimMapViews
import Derived.JoinedTies
import Derived.KernelRfl
namespace Go.Proofs.YtmnfhmbmifompaaDoor
/- THE CELL 'sum', in the pinned program and in every row, IS THE sha256 OF THE DUMP (.gsa) THAT YtmnfhmbmifompaaDoorProg.lean LOADS. Nothing in Lean hashes anything: it is a label: what it is worth is what the hold of that sum in a sandbox is worth. -/
noncomputable def Tryd.pinned : Pinned := { name := "ytmnfhmbmifompaadoor", sum := "4cd8b6e010486d19c33fa7bcb15fdccb3f94be5c82bb1342e8fc6c0820779a2a", checked := Tryd.checked }
namespace Rows
def none {H : Type} : Left H := { results := [], args := [] }

/- WHAT THE LISTED PACKAGE-LEVEL VARIABLES READ AS WHEN THE CALL BEGINS. Each datum BY PROGRAM (the guide's laid-datum.mjs) off the statement by which the dump's own 'gosem.cut.vars' lays the variable. In a bare row this is a premise. The card (YtmnfhmbmifompaaDoorCards.lean) ties it to the program's text. -/
def laid_math_bits_deBruijn32tab {H : Type} : DataW H := .agg [.lit (.int .u8 0), .lit (.int .u8 1), .lit (.int .u8 28), .lit (.int .u8 2), .lit (.int .u8 29), .lit (.int .u8 14), .lit (.int .u8 24), .lit (.int .u8 3), .lit (.int .u8 30), .lit (.int .u8 22), .lit (.int .u8 20), .lit (.int .u8 15), .lit (.int .u8 25), .lit (.int .u8 17), .lit (.int .u8 4), .lit (.int .u8 8), .lit (.int .u8 31), .lit (.int .u8 27), .lit (.int .u8 13), .lit (.int .u8 23), .lit (.int .u8 21), .lit (.int .u8 19), .lit (.int .u8 16), .lit (.int .u8 7), .lit (.int .u8 26), .lit (.int .u8 12), .lit (.int .u8 18), .lit (.int .u8 6), .lit (.int .u8 11), .lit (.int .u8 5), .lit (.int .u8 10), .lit (.int .u8 9)]
def laid_math_bits_deBruijn64tab {H : Type} : DataW H := .agg [.lit (.int .u8 0), .lit (.int .u8 1), .lit (.int .u8 56), .lit (.int .u8 2), .lit (.int .u8 57), .lit (.int .u8 49), .lit (.int .u8 28), .lit (.int .u8 3), .lit (.int .u8 61), .lit (.int .u8 58), .lit (.int .u8 42), .lit (.int .u8 50), .lit (.int .u8 38), .lit (.int .u8 29), .lit (.int .u8 17), .lit (.int .u8 4), .lit (.int .u8 62), .lit (.int .u8 47), .lit (.int .u8 59), .lit (.int .u8 36), .lit (.int .u8 45), .lit (.int .u8 43), .lit (.int .u8 51), .lit (.int .u8 22), .lit (.int .u8 53), .lit (.int .u8 39), .lit (.int .u8 33), .lit (.int .u8 30), .lit (.int .u8 24), .lit (.int .u8 18), .lit (.int .u8 12), .lit (.int .u8 5), .lit (.int .u8 63), .lit (.int .u8 55), .lit (.int .u8 48), .lit (.int .u8 27), .lit (.int .u8 60), .lit (.int .u8 41), .lit (.int .u8 37), .lit (.int .u8 16), .lit (.int .u8 46), .lit (.int .u8 35), .lit (.int .u8 44), .lit (.int .u8 21), .lit (.int .u8 52), .lit (.int .u8 32), .lit (.int .u8 23), .lit (.int .u8 11), .lit (.int .u8 54), .lit (.int .u8 26), .lit (.int .u8 40), .lit (.int .u8 15), .lit (.int .u8 34), .lit (.int .u8 20), .lit (.int .u8 31), .lit (.int .u8 10), .lit (.int .u8 25), .lit (.int .u8 14), .lit (.int .u8 19), .lit (.int .u8 9), .lit (.int .u8 13), .lit (.int .u8 8), .lit (.int .u8 7), .lit (.int .u8 6)]
def laid_internal_strconv_uint64pow10 {H : Type} : DataW H := .agg [.lit (.int .u64 1), .lit (.int .u64 10), .lit (.int .u64 100), .lit (.int .u64 1000), .lit (.int .u64 10000), .lit (.int .u64 100000), .lit (.int .u64 1000000), .lit (.int .u64 10000000), .lit (.int .u64 100000000), .lit (.int .u64 1000000000), .lit (.int .u64 10000000000), .lit (.int .u64 100000000000), .lit (.int .u64 1000000000000), .lit (.int .u64 10000000000000), .lit (.int .u64 100000000000000), .lit (.int .u64 1000000000000000), .lit (.int .u64 10000000000000000), .lit (.int .u64 100000000000000000), .lit (.int .u64 1000000000000000000), .lit (.int .u64 10000000000000000000)]
def laid_strconv_ErrRange {H : Type} : DataW H := .iface "*errors.errorString" (.ptr (.agg [.lit (.string [118, 97, 108, 117, 101, 32, 111, 117, 116, 32, 111, 102, 32, 114, 97, 110, 103, 101])]))
def laid_strconv_ErrSyntax {H : Type} : DataW H := .iface "*errors.errorString" (.ptr (.agg [.lit (.string [105, 110, 118, 97, 108, 105, 100, 32, 115, 121, 110, 116, 97, 120])]))
def laid_edict_lex_signs {H : Type} : DataW H := .slice [.agg [.lit (.string [58, 45]), .lit (.int .i64 9), .lit (.int .i64 0)], .agg [.lit (.string [33, 61]), .lit (.int .i64 11), .lit (.int .i64 2)], .agg [.lit (.string [60, 61]), .lit (.int .i64 11), .lit (.int .i64 4)], .agg [.lit (.string [62, 61]), .lit (.int .i64 11), .lit (.int .i64 6)], .agg [.lit (.string [60]), .lit (.int .i64 11), .lit (.int .i64 3)], .agg [.lit (.string [62]), .lit (.int .i64 11), .lit (.int .i64 5)], .agg [.lit (.string [61]), .lit (.int .i64 11), .lit (.int .i64 1)], .agg [.lit (.string [40]), .lit (.int .i64 5), .lit (.int .i64 0)], .agg [.lit (.string [41]), .lit (.int .i64 6), .lit (.int .i64 0)], .agg [.lit (.string [44]), .lit (.int .i64 7), .lit (.int .i64 0)], .agg [.lit (.string [46]), .lit (.int .i64 8), .lit (.int .i64 0)]] []

/-- 'edictlaw03.ParseOnes': WHATEVER THE INPUT: true; the input reads as it did. -/
def parseOnesSpec : ChangeSpec := { name := "parseOnes", fn := fun _ => fun
  | [d] => { results := [.lit (.bool true)], args := [d] }
  | _ => none }
def parseOnesRow : OpenClaim := { program := "ytmnfhmbmifompaadoor", sum := "4cd8b6e010486d19c33fa7bcb15fdccb3f94be5c82bb1342e8fc6c0820779a2a", func := "edict/edictlaw03.ParseOnes", spec := "parseOnes", unfollowed := true, recurses := true, named := ["edict/lex.signs", "strconv.ErrSyntax", "strconv.ErrRange", "internal/strconv.uint64pow10", "math/bits.deBruijn32tab", "math/bits.deBruijn64tab"], apart := false, laid := [("math/bits.deBruijn32tab", laid_math_bits_deBruijn32tab), ("math/bits.deBruijn64tab", laid_math_bits_deBruijn64tab), ("internal/strconv.uint64pow10", laid_internal_strconv_uint64pow10), ("strconv.ErrRange", laid_strconv_ErrRange), ("strconv.ErrSyntax", laid_strconv_ErrSyntax), ("edict/lex.signs", laid_edict_lex_signs)] }
def ParseOnesSaid : Prop := parseOnesRow.holds Tryd.pinned (OpenSpec.ofChange parseOnesSpec)

/-- ITS FALSE NEIGHBOUR: 'it returns false'. Refute it at one input. -/
def parseOnesWrong : ChangeSpec := { name := "parseOnes", fn := fun _ => fun
  | [d] => { results := [.lit (.bool false)], args := [d] }
  | _ => none }
def ParseOnesWrongFalsely : Prop := parseOnesRow.holds Tryd.pinned (OpenSpec.ofChange parseOnesWrong)

/-- 'edictlaw03.ParseFacts': WHATEVER THE INPUT: true; the input reads as it did. -/
def parseFactsSpec : ChangeSpec := { name := "parseFacts", fn := fun _ => fun
  | [d] => { results := [.lit (.bool true)], args := [d] }
  | _ => none }
def parseFactsRow : OpenClaim := { program := "ytmnfhmbmifompaadoor", sum := "4cd8b6e010486d19c33fa7bcb15fdccb3f94be5c82bb1342e8fc6c0820779a2a", func := "edict/edictlaw03.ParseFacts", spec := "parseFacts", unfollowed := true, recurses := true, named := ["edict/lex.signs", "strconv.ErrSyntax", "strconv.ErrRange", "internal/strconv.uint64pow10", "math/bits.deBruijn32tab", "math/bits.deBruijn64tab"], apart := false, laid := [("math/bits.deBruijn32tab", laid_math_bits_deBruijn32tab), ("math/bits.deBruijn64tab", laid_math_bits_deBruijn64tab), ("internal/strconv.uint64pow10", laid_internal_strconv_uint64pow10), ("strconv.ErrRange", laid_strconv_ErrRange), ("strconv.ErrSyntax", laid_strconv_ErrSyntax), ("edict/lex.signs", laid_edict_lex_signs)] }
def ParseFactsSaid : Prop := parseFactsRow.holds Tryd.pinned (OpenSpec.ofChange parseFactsSpec)

/-- ITS FALSE NEIGHBOUR: 'it returns false'. Refute it at one input. -/
def parseFactsWrong : ChangeSpec := { name := "parseFacts", fn := fun _ => fun
  | [d] => { results := [.lit (.bool false)], args := [d] }
  | _ => none }
def ParseFactsWrongFalsely : Prop := parseFactsRow.holds Tryd.pinned (OpenSpec.ofChange parseFactsWrong)

/-- 'edictlaw03.ParseMakes': WHATEVER THE INPUT: true; the input reads as it did. -/
def parseMakesSpec : ChangeSpec := { name := "parseMakes", fn := fun _ => fun
  | [d] => { results := [.lit (.bool true)], args := [d] }
  | _ => none }
def parseMakesRow : OpenClaim := { program := "ytmnfhmbmifompaadoor", sum := "4cd8b6e010486d19c33fa7bcb15fdccb3f94be5c82bb1342e8fc6c0820779a2a", func := "edict/edictlaw03.ParseMakes", spec := "parseMakes", unfollowed := true, recurses := true, named := ["internal/strconv.uint64pow10", "math/bits.deBruijn32tab", "math/bits.deBruijn64tab", "edict/lex.signs", "strconv.ErrSyntax", "strconv.ErrRange"], apart := false, laid := [("math/bits.deBruijn32tab", laid_math_bits_deBruijn32tab), ("math/bits.deBruijn64tab", laid_math_bits_deBruijn64tab), ("internal/strconv.uint64pow10", laid_internal_strconv_uint64pow10), ("strconv.ErrRange", laid_strconv_ErrRange), ("strconv.ErrSyntax", laid_strconv_ErrSyntax), ("edict/lex.signs", laid_edict_lex_signs)] }
def ParseMakesSaid : Prop := parseMakesRow.holds Tryd.pinned (OpenSpec.ofChange parseMakesSpec)

/-- ITS FALSE NEIGHBOUR: 'it returns false'. Refute it at one input. -/
def parseMakesWrong : ChangeSpec := { name := "parseMakes", fn := fun _ => fun
  | [d] => { results := [.lit (.bool false)], args := [d] }
  | _ => none }
def ParseMakesWrongFalsely : Prop := parseMakesRow.holds Tryd.pinned (OpenSpec.ofChange parseMakesWrong)

/-- 'edictlaw03.ParseSpells': WHATEVER THE INPUT: true; the input reads as it did. -/
def parseSpellsSpec : ChangeSpec := { name := "parseSpells", fn := fun _ => fun
  | [d] => { results := [.lit (.bool true)], args := [d] }
  | _ => none }
def parseSpellsRow : OpenClaim := { program := "ytmnfhmbmifompaadoor", sum := "4cd8b6e010486d19c33fa7bcb15fdccb3f94be5c82bb1342e8fc6c0820779a2a", func := "edict/edictlaw03.ParseSpells", spec := "parseSpells", unfollowed := true, recurses := true, named := ["edict/lex.signs", "strconv.ErrSyntax", "strconv.ErrRange", "internal/strconv.uint64pow10", "math/bits.deBruijn32tab", "math/bits.deBruijn64tab"], apart := false, laid := [("math/bits.deBruijn32tab", laid_math_bits_deBruijn32tab), ("math/bits.deBruijn64tab", laid_math_bits_deBruijn64tab), ("internal/strconv.uint64pow10", laid_internal_strconv_uint64pow10), ("strconv.ErrRange", laid_strconv_ErrRange), ("strconv.ErrSyntax", laid_strconv_ErrSyntax), ("edict/lex.signs", laid_edict_lex_signs)] }
def ParseSpellsSaid : Prop := parseSpellsRow.holds Tryd.pinned (OpenSpec.ofChange parseSpellsSpec)

/-- ITS FALSE NEIGHBOUR: 'it returns false'. Refute it at one input. -/
def parseSpellsWrong : ChangeSpec := { name := "parseSpells", fn := fun _ => fun
  | [d] => { results := [.lit (.bool false)], args := [d] }
  | _ => none }
def ParseSpellsWrongFalsely : Prop := parseSpellsRow.holds Tryd.pinned (OpenSpec.ofChange parseSpellsWrong)

/-- 'edictlaw03.ParseMakesQuery': WHATEVER THE INPUT: true; the input reads as it did. -/
def parseMakesQuerySpec : ChangeSpec := { name := "parseMakesQuery", fn := fun _ => fun
  | [d] => { results := [.lit (.bool true)], args := [d] }
  | _ => none }
def parseMakesQueryRow : OpenClaim := { program := "ytmnfhmbmifompaadoor", sum := "4cd8b6e010486d19c33fa7bcb15fdccb3f94be5c82bb1342e8fc6c0820779a2a", func := "edict/edictlaw03.ParseMakesQuery", spec := "parseMakesQuery", unfollowed := true, recurses := true, named := ["internal/strconv.uint64pow10", "math/bits.deBruijn32tab", "math/bits.deBruijn64tab", "edict/lex.signs", "strconv.ErrSyntax", "strconv.ErrRange"], apart := false, laid := [("math/bits.deBruijn32tab", laid_math_bits_deBruijn32tab), ("math/bits.deBruijn64tab", laid_math_bits_deBruijn64tab), ("internal/strconv.uint64pow10", laid_internal_strconv_uint64pow10), ("strconv.ErrRange", laid_strconv_ErrRange), ("strconv.ErrSyntax", laid_strconv_ErrSyntax), ("edict/lex.signs", laid_edict_lex_signs)] }
def ParseMakesQuerySaid : Prop := parseMakesQueryRow.holds Tryd.pinned (OpenSpec.ofChange parseMakesQuerySpec)

/-- ITS FALSE NEIGHBOUR: 'it returns false'. Refute it at one input. -/
def parseMakesQueryWrong : ChangeSpec := { name := "parseMakesQuery", fn := fun _ => fun
  | [d] => { results := [.lit (.bool false)], args := [d] }
  | _ => none }
def ParseMakesQueryWrongFalsely : Prop := parseMakesQueryRow.holds Tryd.pinned (OpenSpec.ofChange parseMakesQueryWrong)

/-- 'edictlaw03.ParseBodies': WHATEVER THE INPUT: true; the input reads as it did. -/
def parseBodiesSpec : ChangeSpec := { name := "parseBodies", fn := fun _ => fun
  | [d] => { results := [.lit (.bool true)], args := [d] }
  | _ => none }
def parseBodiesRow : OpenClaim := { program := "ytmnfhmbmifompaadoor", sum := "4cd8b6e010486d19c33fa7bcb15fdccb3f94be5c82bb1342e8fc6c0820779a2a", func := "edict/edictlaw03.ParseBodies", spec := "parseBodies", unfollowed := true, recurses := true, named := ["edict/lex.signs", "strconv.ErrSyntax", "strconv.ErrRange", "internal/strconv.uint64pow10", "math/bits.deBruijn32tab", "math/bits.deBruijn64tab"], apart := false, laid := [("math/bits.deBruijn32tab", laid_math_bits_deBruijn32tab), ("math/bits.deBruijn64tab", laid_math_bits_deBruijn64tab), ("internal/strconv.uint64pow10", laid_internal_strconv_uint64pow10), ("strconv.ErrRange", laid_strconv_ErrRange), ("strconv.ErrSyntax", laid_strconv_ErrSyntax), ("edict/lex.signs", laid_edict_lex_signs)] }
def ParseBodiesSaid : Prop := parseBodiesRow.holds Tryd.pinned (OpenSpec.ofChange parseBodiesSpec)

/-- ITS FALSE NEIGHBOUR: 'it returns false'. Refute it at one input. -/
def parseBodiesWrong : ChangeSpec := { name := "parseBodies", fn := fun _ => fun
  | [d] => { results := [.lit (.bool false)], args := [d] }
  | _ => none }
def ParseBodiesWrongFalsely : Prop := parseBodiesRow.holds Tryd.pinned (OpenSpec.ofChange parseBodiesWrong)

/-- 'edictlaw03.ParseJoins': WHATEVER THE INPUT: true; the input reads as it did. -/
def parseJoinsSpec : ChangeSpec := { name := "parseJoins", fn := fun _ => fun
  | [d1, d2] => { results := [.lit (.bool true)], args := [d1, d2] }
  | _ => none }
def parseJoinsRow : OpenClaim := { program := "ytmnfhmbmifompaadoor", sum := "4cd8b6e010486d19c33fa7bcb15fdccb3f94be5c82bb1342e8fc6c0820779a2a", func := "edict/edictlaw03.ParseJoins", spec := "parseJoins", unfollowed := true, recurses := true, named := ["edict/lex.signs", "strconv.ErrSyntax", "strconv.ErrRange", "internal/strconv.uint64pow10", "math/bits.deBruijn32tab", "math/bits.deBruijn64tab"], apart := false, laid := [("math/bits.deBruijn32tab", laid_math_bits_deBruijn32tab), ("math/bits.deBruijn64tab", laid_math_bits_deBruijn64tab), ("internal/strconv.uint64pow10", laid_internal_strconv_uint64pow10), ("strconv.ErrRange", laid_strconv_ErrRange), ("strconv.ErrSyntax", laid_strconv_ErrSyntax), ("edict/lex.signs", laid_edict_lex_signs)] }
def ParseJoinsSaid : Prop := parseJoinsRow.holds Tryd.pinned (OpenSpec.ofChange parseJoinsSpec)

/-- ITS FALSE NEIGHBOUR: 'it returns false'. Refute it at one input. -/
def parseJoinsWrong : ChangeSpec := { name := "parseJoins", fn := fun _ => fun
  | [d1, d2] => { results := [.lit (.bool false)], args := [d1, d2] }
  | _ => none }
def ParseJoinsWrongFalsely : Prop := parseJoinsRow.holds Tryd.pinned (OpenSpec.ofChange parseJoinsWrong)

/-- 'edictlaw03.ParseGround': WHATEVER THE INPUT: true; the input reads as it did. -/
def parseGroundSpec : ChangeSpec := { name := "parseGround", fn := fun _ => fun
  | [d] => { results := [.lit (.bool true)], args := [d] }
  | _ => none }
def parseGroundRow : OpenClaim := { program := "ytmnfhmbmifompaadoor", sum := "4cd8b6e010486d19c33fa7bcb15fdccb3f94be5c82bb1342e8fc6c0820779a2a", func := "edict/edictlaw03.ParseGround", spec := "parseGround", unfollowed := true, recurses := true, named := ["edict/lex.signs", "strconv.ErrSyntax", "strconv.ErrRange", "internal/strconv.uint64pow10", "math/bits.deBruijn32tab", "math/bits.deBruijn64tab"], apart := false, laid := [("math/bits.deBruijn32tab", laid_math_bits_deBruijn32tab), ("math/bits.deBruijn64tab", laid_math_bits_deBruijn64tab), ("internal/strconv.uint64pow10", laid_internal_strconv_uint64pow10), ("strconv.ErrRange", laid_strconv_ErrRange), ("strconv.ErrSyntax", laid_strconv_ErrSyntax), ("edict/lex.signs", laid_edict_lex_signs)] }
def ParseGroundSaid : Prop := parseGroundRow.holds Tryd.pinned (OpenSpec.ofChange parseGroundSpec)

/-- ITS FALSE NEIGHBOUR: 'it returns false'. Refute it at one input. -/
def parseGroundWrong : ChangeSpec := { name := "parseGround", fn := fun _ => fun
  | [d] => { results := [.lit (.bool false)], args := [d] }
  | _ => none }
def ParseGroundWrongFalsely : Prop := parseGroundRow.holds Tryd.pinned (OpenSpec.ofChange parseGroundWrong)

/-- 'edictlaw03.ParseSpellsFacts': WHATEVER THE INPUT: true; the input reads as it did. -/
def parseSpellsFactsSpec : ChangeSpec := { name := "parseSpellsFacts", fn := fun _ => fun
  | [d] => { results := [.lit (.bool true)], args := [d] }
  | _ => none }
def parseSpellsFactsRow : OpenClaim := { program := "ytmnfhmbmifompaadoor", sum := "4cd8b6e010486d19c33fa7bcb15fdccb3f94be5c82bb1342e8fc6c0820779a2a", func := "edict/edictlaw03.ParseSpellsFacts", spec := "parseSpellsFacts", unfollowed := true, recurses := true, named := ["edict/lex.signs", "strconv.ErrSyntax", "strconv.ErrRange", "internal/strconv.uint64pow10", "math/bits.deBruijn32tab", "math/bits.deBruijn64tab"], apart := false, laid := [("math/bits.deBruijn32tab", laid_math_bits_deBruijn32tab), ("math/bits.deBruijn64tab", laid_math_bits_deBruijn64tab), ("internal/strconv.uint64pow10", laid_internal_strconv_uint64pow10), ("strconv.ErrRange", laid_strconv_ErrRange), ("strconv.ErrSyntax", laid_strconv_ErrSyntax), ("edict/lex.signs", laid_edict_lex_signs)] }
def ParseSpellsFactsSaid : Prop := parseSpellsFactsRow.holds Tryd.pinned (OpenSpec.ofChange parseSpellsFactsSpec)

/-- ITS FALSE NEIGHBOUR: 'it returns false'. Refute it at one input. -/
def parseSpellsFactsWrong : ChangeSpec := { name := "parseSpellsFacts", fn := fun _ => fun
  | [d] => { results := [.lit (.bool false)], args := [d] }
  | _ => none }
def ParseSpellsFactsWrongFalsely : Prop := parseSpellsFactsRow.holds Tryd.pinned (OpenSpec.ofChange parseSpellsFactsWrong)

/-- 'edictlaw03.ParseMakesFacts': WHATEVER THE INPUT: true; the input reads as it did. -/
def parseMakesFactsSpec : ChangeSpec := { name := "parseMakesFacts", fn := fun _ => fun
  | [d] => { results := [.lit (.bool true)], args := [d] }
  | _ => none }
def parseMakesFactsRow : OpenClaim := { program := "ytmnfhmbmifompaadoor", sum := "4cd8b6e010486d19c33fa7bcb15fdccb3f94be5c82bb1342e8fc6c0820779a2a", func := "edict/edictlaw03.ParseMakesFacts", spec := "parseMakesFacts", unfollowed := true, recurses := true, named := ["internal/strconv.uint64pow10", "math/bits.deBruijn32tab", "math/bits.deBruijn64tab", "edict/lex.signs", "strconv.ErrSyntax", "strconv.ErrRange"], apart := false, laid := [("math/bits.deBruijn32tab", laid_math_bits_deBruijn32tab), ("math/bits.deBruijn64tab", laid_math_bits_deBruijn64tab), ("internal/strconv.uint64pow10", laid_internal_strconv_uint64pow10), ("strconv.ErrRange", laid_strconv_ErrRange), ("strconv.ErrSyntax", laid_strconv_ErrSyntax), ("edict/lex.signs", laid_edict_lex_signs)] }
def ParseMakesFactsSaid : Prop := parseMakesFactsRow.holds Tryd.pinned (OpenSpec.ofChange parseMakesFactsSpec)

/-- ITS FALSE NEIGHBOUR: 'it returns false'. Refute it at one input. -/
def parseMakesFactsWrong : ChangeSpec := { name := "parseMakesFacts", fn := fun _ => fun
  | [d] => { results := [.lit (.bool false)], args := [d] }
  | _ => none }
def ParseMakesFactsWrongFalsely : Prop := parseMakesFactsRow.holds Tryd.pinned (OpenSpec.ofChange parseMakesFactsWrong)

/-- 'edictlaw03.ParseOneOfFacts': WHATEVER THE INPUT: true; the input reads as it did. -/
def parseOneOfFactsSpec : ChangeSpec := { name := "parseOneOfFacts", fn := fun _ => fun
  | [d] => { results := [.lit (.bool true)], args := [d] }
  | _ => none }
def parseOneOfFactsRow : OpenClaim := { program := "ytmnfhmbmifompaadoor", sum := "4cd8b6e010486d19c33fa7bcb15fdccb3f94be5c82bb1342e8fc6c0820779a2a", func := "edict/edictlaw03.ParseOneOfFacts", spec := "parseOneOfFacts", unfollowed := true, recurses := true, named := ["edict/lex.signs", "strconv.ErrSyntax", "strconv.ErrRange", "internal/strconv.uint64pow10", "math/bits.deBruijn32tab", "math/bits.deBruijn64tab"], apart := false, laid := [("math/bits.deBruijn32tab", laid_math_bits_deBruijn32tab), ("math/bits.deBruijn64tab", laid_math_bits_deBruijn64tab), ("internal/strconv.uint64pow10", laid_internal_strconv_uint64pow10), ("strconv.ErrRange", laid_strconv_ErrRange), ("strconv.ErrSyntax", laid_strconv_ErrSyntax), ("edict/lex.signs", laid_edict_lex_signs)] }
def ParseOneOfFactsSaid : Prop := parseOneOfFactsRow.holds Tryd.pinned (OpenSpec.ofChange parseOneOfFactsSpec)

/-- ITS FALSE NEIGHBOUR: 'it returns false'. Refute it at one input. -/
def parseOneOfFactsWrong : ChangeSpec := { name := "parseOneOfFacts", fn := fun _ => fun
  | [d] => { results := [.lit (.bool false)], args := [d] }
  | _ => none }
def ParseOneOfFactsWrongFalsely : Prop := parseOneOfFactsRow.holds Tryd.pinned (OpenSpec.ofChange parseOneOfFactsWrong)

/-- 'edictlaw03.ParseStops': WHATEVER THE INPUT: true; the input reads as it did. -/
def parseStopsSpec : ChangeSpec := { name := "parseStops", fn := fun _ => fun
  | [d] => { results := [.lit (.bool true)], args := [d] }
  | _ => none }
def parseStopsRow : OpenClaim := { program := "ytmnfhmbmifompaadoor", sum := "4cd8b6e010486d19c33fa7bcb15fdccb3f94be5c82bb1342e8fc6c0820779a2a", func := "edict/edictlaw03.ParseStops", spec := "parseStops", unfollowed := true, recurses := true, named := ["edict/lex.signs", "strconv.ErrSyntax", "strconv.ErrRange", "internal/strconv.uint64pow10", "math/bits.deBruijn32tab", "math/bits.deBruijn64tab"], apart := false, laid := [("math/bits.deBruijn32tab", laid_math_bits_deBruijn32tab), ("math/bits.deBruijn64tab", laid_math_bits_deBruijn64tab), ("internal/strconv.uint64pow10", laid_internal_strconv_uint64pow10), ("strconv.ErrRange", laid_strconv_ErrRange), ("strconv.ErrSyntax", laid_strconv_ErrSyntax), ("edict/lex.signs", laid_edict_lex_signs)] }
def ParseStopsSaid : Prop := parseStopsRow.holds Tryd.pinned (OpenSpec.ofChange parseStopsSpec)

/-- ITS FALSE NEIGHBOUR: 'it returns false'. Refute it at one input. -/
def parseStopsWrong : ChangeSpec := { name := "parseStops", fn := fun _ => fun
  | [d] => { results := [.lit (.bool false)], args := [d] }
  | _ => none }
def ParseStopsWrongFalsely : Prop := parseStopsRow.holds Tryd.pinned (OpenSpec.ofChange parseStopsWrong)

/-- 'edictlaw03.ParseBehind': WHATEVER THE INPUT: true; the input reads as it did. -/
def parseBehindSpec : ChangeSpec := { name := "parseBehind", fn := fun _ => fun
  | [d1, d2] => { results := [.lit (.bool true)], args := [d1, d2] }
  | _ => none }
def parseBehindRow : OpenClaim := { program := "ytmnfhmbmifompaadoor", sum := "4cd8b6e010486d19c33fa7bcb15fdccb3f94be5c82bb1342e8fc6c0820779a2a", func := "edict/edictlaw03.ParseBehind", spec := "parseBehind", unfollowed := true, recurses := true, named := ["edict/lex.signs", "strconv.ErrSyntax", "strconv.ErrRange", "internal/strconv.uint64pow10", "math/bits.deBruijn32tab", "math/bits.deBruijn64tab"], apart := false, laid := [("math/bits.deBruijn32tab", laid_math_bits_deBruijn32tab), ("math/bits.deBruijn64tab", laid_math_bits_deBruijn64tab), ("internal/strconv.uint64pow10", laid_internal_strconv_uint64pow10), ("strconv.ErrRange", laid_strconv_ErrRange), ("strconv.ErrSyntax", laid_strconv_ErrSyntax), ("edict/lex.signs", laid_edict_lex_signs)] }
def ParseBehindSaid : Prop := parseBehindRow.holds Tryd.pinned (OpenSpec.ofChange parseBehindSpec)

/-- ITS FALSE NEIGHBOUR: 'it returns false'. Refute it at one input. -/
def parseBehindWrong : ChangeSpec := { name := "parseBehind", fn := fun _ => fun
  | [d1, d2] => { results := [.lit (.bool false)], args := [d1, d2] }
  | _ => none }
def ParseBehindWrongFalsely : Prop := parseBehindRow.holds Tryd.pinned (OpenSpec.ofChange parseBehindWrong)

/-- 'edictlaw03.ParseLimits': WHATEVER THE INPUT: true; the input reads as it did. -/
def parseLimitsSpec : ChangeSpec := { name := "parseLimits", fn := fun _ => fun
  | [d1, d2, d3] => { results := [.lit (.bool true)], args := [d1, d2, d3] }
  | _ => none }
def parseLimitsRow : OpenClaim := { program := "ytmnfhmbmifompaadoor", sum := "4cd8b6e010486d19c33fa7bcb15fdccb3f94be5c82bb1342e8fc6c0820779a2a", func := "edict/edictlaw03.ParseLimits", spec := "parseLimits", unfollowed := true, recurses := true, named := ["edict/lex.signs", "strconv.ErrSyntax", "strconv.ErrRange", "internal/strconv.uint64pow10", "math/bits.deBruijn32tab", "math/bits.deBruijn64tab"], apart := false, laid := [("math/bits.deBruijn32tab", laid_math_bits_deBruijn32tab), ("math/bits.deBruijn64tab", laid_math_bits_deBruijn64tab), ("internal/strconv.uint64pow10", laid_internal_strconv_uint64pow10), ("strconv.ErrRange", laid_strconv_ErrRange), ("strconv.ErrSyntax", laid_strconv_ErrSyntax), ("edict/lex.signs", laid_edict_lex_signs)] }
def ParseLimitsSaid : Prop := parseLimitsRow.holds Tryd.pinned (OpenSpec.ofChange parseLimitsSpec)

/-- ITS FALSE NEIGHBOUR: 'it returns false'. Refute it at one input. -/
def parseLimitsWrong : ChangeSpec := { name := "parseLimits", fn := fun _ => fun
  | [d1, d2, d3] => { results := [.lit (.bool false)], args := [d1, d2, d3] }
  | _ => none }
def ParseLimitsWrongFalsely : Prop := parseLimitsRow.holds Tryd.pinned (OpenSpec.ofChange parseLimitsWrong)

/-- 'edictlaw03.ParseLong': WHATEVER THE INPUT: true; the input reads as it did. -/
def parseLongSpec : ChangeSpec := { name := "parseLong", fn := fun _ => fun
  | [d1, d2] => { results := [.lit (.bool true)], args := [d1, d2] }
  | _ => none }
def parseLongRow : OpenClaim := { program := "ytmnfhmbmifompaadoor", sum := "4cd8b6e010486d19c33fa7bcb15fdccb3f94be5c82bb1342e8fc6c0820779a2a", func := "edict/edictlaw03.ParseLong", spec := "parseLong", unfollowed := true, recurses := true, named := ["edict/lex.signs", "strconv.ErrSyntax", "strconv.ErrRange", "internal/strconv.uint64pow10", "math/bits.deBruijn32tab", "math/bits.deBruijn64tab"], apart := false, laid := [("math/bits.deBruijn32tab", laid_math_bits_deBruijn32tab), ("math/bits.deBruijn64tab", laid_math_bits_deBruijn64tab), ("internal/strconv.uint64pow10", laid_internal_strconv_uint64pow10), ("strconv.ErrRange", laid_strconv_ErrRange), ("strconv.ErrSyntax", laid_strconv_ErrSyntax), ("edict/lex.signs", laid_edict_lex_signs)] }
def ParseLongSaid : Prop := parseLongRow.holds Tryd.pinned (OpenSpec.ofChange parseLongSpec)

/-- ITS FALSE NEIGHBOUR: 'it returns false'. Refute it at one input. -/
def parseLongWrong : ChangeSpec := { name := "parseLong", fn := fun _ => fun
  | [d1, d2] => { results := [.lit (.bool false)], args := [d1, d2] }
  | _ => none }
def ParseLongWrongFalsely : Prop := parseLongRow.holds Tryd.pinned (OpenSpec.ofChange parseLongWrong)

/-- 'edictlaw03.ParseOwn': WHATEVER THE INPUT: true; the input reads as it did. -/
def parseOwnSpec : ChangeSpec := { name := "parseOwn", fn := fun _ => fun
  | [d1, d2] => { results := [.lit (.bool true)], args := [d1, d2] }
  | _ => none }
def parseOwnRow : OpenClaim := { program := "ytmnfhmbmifompaadoor", sum := "4cd8b6e010486d19c33fa7bcb15fdccb3f94be5c82bb1342e8fc6c0820779a2a", func := "edict/edictlaw03.ParseOwn", spec := "parseOwn", unfollowed := true, recurses := true, named := ["edict/lex.signs", "strconv.ErrSyntax", "strconv.ErrRange", "internal/strconv.uint64pow10", "math/bits.deBruijn32tab", "math/bits.deBruijn64tab"], apart := false, laid := [("math/bits.deBruijn32tab", laid_math_bits_deBruijn32tab), ("math/bits.deBruijn64tab", laid_math_bits_deBruijn64tab), ("internal/strconv.uint64pow10", laid_internal_strconv_uint64pow10), ("strconv.ErrRange", laid_strconv_ErrRange), ("strconv.ErrSyntax", laid_strconv_ErrSyntax), ("edict/lex.signs", laid_edict_lex_signs)] }
def ParseOwnSaid : Prop := parseOwnRow.holds Tryd.pinned (OpenSpec.ofChange parseOwnSpec)

/-- ITS FALSE NEIGHBOUR: 'it returns false'. Refute it at one input. -/
def parseOwnWrong : ChangeSpec := { name := "parseOwn", fn := fun _ => fun
  | [d1, d2] => { results := [.lit (.bool false)], args := [d1, d2] }
  | _ => none }
def ParseOwnWrongFalsely : Prop := parseOwnRow.holds Tryd.pinned (OpenSpec.ofChange parseOwnWrong)

/- THE SECOND FORM. 'bulk': how many values and letters a reading holds, each counted each time it is reached (what is shared counts as often as it is met; a slice's spare places count too). A statement '..UptoSaid' is the law's where the arguments, and the package variables that the reading takes, are together of bulk at most 1048576: NARROWER than '..Said'. Prove '..Said' where nothing that the law and all that it calls make is longer than what came in: it says more and counts as full. Else prove '..UptoSaid'. A law counts once. -/
mutual
def uptoBulk {H : Type} : DataW H → Nat
  | .lit (.string bytes) => bytes.length + 1
  | .lit _ => 1
  | .nil => 1
  | .ptr d => uptoBulk d + 1
  | .slice elems spare => uptoBulkAll elems + uptoBulkAll spare + 1
  | .agg parts => uptoBulkAll parts + 1
  | .iface _ d => uptoBulk d + 1
  | .map entries => uptoBulkEntries entries + 1
  | .held _ => 1
def uptoBulkAll {H : Type} : List (DataW H) → Nat
  | [] => 0
  | d :: r => uptoBulk d + uptoBulkAll r
def uptoBulkEntries {H : Type} : List (Lit × DataW H) → Nat
  | [] => 0
  | x :: r => uptoBulkEntry x + uptoBulkEntries r
def uptoBulkEntry {H : Type} : Lit × DataW H → Nat
  | (.string bytes, d) => bytes.length + uptoBulk d + 1
  | (_, d) => uptoBulk d + 1
 end
def uptoSmall : (H : Type) → List (DataW H) → Bool := fun _ ds => decide (uptoBulkAll ds ≤ 1048576)
def OpenSpec.upto (s : _root_.Go.ChangeSpec) : _root_.Go.OpenSpec := { _root_.Go.OpenSpec.ofChange s with cond := some uptoSmall }

/-- 'edictlaw03.ParseOnes', WHERE WHAT IT READS IS OF BULK AT MOST 1048576: true; the input reads as it did. -/
def parseOnesUptoRow : OpenClaim := { program := "ytmnfhmbmifompaadoor", sum := "4cd8b6e010486d19c33fa7bcb15fdccb3f94be5c82bb1342e8fc6c0820779a2a", func := "edict/edictlaw03.ParseOnes", spec := "parseOnes", unfollowed := true, recurses := true, named := ["edict/lex.signs", "strconv.ErrSyntax", "strconv.ErrRange", "internal/strconv.uint64pow10", "math/bits.deBruijn32tab", "math/bits.deBruijn64tab"], apart := false, laid := [("math/bits.deBruijn32tab", laid_math_bits_deBruijn32tab), ("math/bits.deBruijn64tab", laid_math_bits_deBruijn64tab), ("internal/strconv.uint64pow10", laid_internal_strconv_uint64pow10), ("strconv.ErrRange", laid_strconv_ErrRange), ("strconv.ErrSyntax", laid_strconv_ErrSyntax), ("edict/lex.signs", laid_edict_lex_signs)], narrowed := true }
def ParseOnesUptoSaid : Prop := parseOnesUptoRow.holds Tryd.pinned (OpenSpec.upto parseOnesSpec)

/-- 'edictlaw03.ParseFacts', WHERE WHAT IT READS IS OF BULK AT MOST 1048576: true; the input reads as it did. -/
def parseFactsUptoRow : OpenClaim := { program := "ytmnfhmbmifompaadoor", sum := "4cd8b6e010486d19c33fa7bcb15fdccb3f94be5c82bb1342e8fc6c0820779a2a", func := "edict/edictlaw03.ParseFacts", spec := "parseFacts", unfollowed := true, recurses := true, named := ["edict/lex.signs", "strconv.ErrSyntax", "strconv.ErrRange", "internal/strconv.uint64pow10", "math/bits.deBruijn32tab", "math/bits.deBruijn64tab"], apart := false, laid := [("math/bits.deBruijn32tab", laid_math_bits_deBruijn32tab), ("math/bits.deBruijn64tab", laid_math_bits_deBruijn64tab), ("internal/strconv.uint64pow10", laid_internal_strconv_uint64pow10), ("strconv.ErrRange", laid_strconv_ErrRange), ("strconv.ErrSyntax", laid_strconv_ErrSyntax), ("edict/lex.signs", laid_edict_lex_signs)], narrowed := true }
def ParseFactsUptoSaid : Prop := parseFactsUptoRow.holds Tryd.pinned (OpenSpec.upto parseFactsSpec)

/-- 'edictlaw03.ParseMakes', WHERE WHAT IT READS IS OF BULK AT MOST 1048576: true; the input reads as it did. -/
def parseMakesUptoRow : OpenClaim := { program := "ytmnfhmbmifompaadoor", sum := "4cd8b6e010486d19c33fa7bcb15fdccb3f94be5c82bb1342e8fc6c0820779a2a", func := "edict/edictlaw03.ParseMakes", spec := "parseMakes", unfollowed := true, recurses := true, named := ["internal/strconv.uint64pow10", "math/bits.deBruijn32tab", "math/bits.deBruijn64tab", "edict/lex.signs", "strconv.ErrSyntax", "strconv.ErrRange"], apart := false, laid := [("math/bits.deBruijn32tab", laid_math_bits_deBruijn32tab), ("math/bits.deBruijn64tab", laid_math_bits_deBruijn64tab), ("internal/strconv.uint64pow10", laid_internal_strconv_uint64pow10), ("strconv.ErrRange", laid_strconv_ErrRange), ("strconv.ErrSyntax", laid_strconv_ErrSyntax), ("edict/lex.signs", laid_edict_lex_signs)], narrowed := true }
def ParseMakesUptoSaid : Prop := parseMakesUptoRow.holds Tryd.pinned (OpenSpec.upto parseMakesSpec)

/-- 'edictlaw03.ParseSpells', WHERE WHAT IT READS IS OF BULK AT MOST 1048576: true; the input reads as it did. -/
def parseSpellsUptoRow : OpenClaim := { program := "ytmnfhmbmifompaadoor", sum := "4cd8b6e010486d19c33fa7bcb15fdccb3f94be5c82bb1342e8fc6c0820779a2a", func := "edict/edictlaw03.ParseSpells", spec := "parseSpells", unfollowed := true, recurses := true, named := ["edict/lex.signs", "strconv.ErrSyntax", "strconv.ErrRange", "internal/strconv.uint64pow10", "math/bits.deBruijn32tab", "math/bits.deBruijn64tab"], apart := false, laid := [("math/bits.deBruijn32tab", laid_math_bits_deBruijn32tab), ("math/bits.deBruijn64tab", laid_math_bits_deBruijn64tab), ("internal/strconv.uint64pow10", laid_internal_strconv_uint64pow10), ("strconv.ErrRange", laid_strconv_ErrRange), ("strconv.ErrSyntax", laid_strconv_ErrSyntax), ("edict/lex.signs", laid_edict_lex_signs)], narrowed := true }
def ParseSpellsUptoSaid : Prop := parseSpellsUptoRow.holds Tryd.pinned (OpenSpec.upto parseSpellsSpec)

/-- 'edictlaw03.ParseMakesQuery', WHERE WHAT IT READS IS OF BULK AT MOST 1048576: true; the input reads as it did. -/
def parseMakesQueryUptoRow : OpenClaim := { program := "ytmnfhmbmifompaadoor", sum := "4cd8b6e010486d19c33fa7bcb15fdccb3f94be5c82bb1342e8fc6c0820779a2a", func := "edict/edictlaw03.ParseMakesQuery", spec := "parseMakesQuery", unfollowed := true, recurses := true, named := ["internal/strconv.uint64pow10", "math/bits.deBruijn32tab", "math/bits.deBruijn64tab", "edict/lex.signs", "strconv.ErrSyntax", "strconv.ErrRange"], apart := false, laid := [("math/bits.deBruijn32tab", laid_math_bits_deBruijn32tab), ("math/bits.deBruijn64tab", laid_math_bits_deBruijn64tab), ("internal/strconv.uint64pow10", laid_internal_strconv_uint64pow10), ("strconv.ErrRange", laid_strconv_ErrRange), ("strconv.ErrSyntax", laid_strconv_ErrSyntax), ("edict/lex.signs", laid_edict_lex_signs)], narrowed := true }
def ParseMakesQueryUptoSaid : Prop := parseMakesQueryUptoRow.holds Tryd.pinned (OpenSpec.upto parseMakesQuerySpec)

/-- 'edictlaw03.ParseBodies', WHERE WHAT IT READS IS OF BULK AT MOST 1048576: true; the input reads as it did. -/
def parseBodiesUptoRow : OpenClaim := { program := "ytmnfhmbmifompaadoor", sum := "4cd8b6e010486d19c33fa7bcb15fdccb3f94be5c82bb1342e8fc6c0820779a2a", func := "edict/edictlaw03.ParseBodies", spec := "parseBodies", unfollowed := true, recurses := true, named := ["edict/lex.signs", "strconv.ErrSyntax", "strconv.ErrRange", "internal/strconv.uint64pow10", "math/bits.deBruijn32tab", "math/bits.deBruijn64tab"], apart := false, laid := [("math/bits.deBruijn32tab", laid_math_bits_deBruijn32tab), ("math/bits.deBruijn64tab", laid_math_bits_deBruijn64tab), ("internal/strconv.uint64pow10", laid_internal_strconv_uint64pow10), ("strconv.ErrRange", laid_strconv_ErrRange), ("strconv.ErrSyntax", laid_strconv_ErrSyntax), ("edict/lex.signs", laid_edict_lex_signs)], narrowed := true }
def ParseBodiesUptoSaid : Prop := parseBodiesUptoRow.holds Tryd.pinned (OpenSpec.upto parseBodiesSpec)

/-- 'edictlaw03.ParseJoins', WHERE WHAT IT READS IS OF BULK AT MOST 1048576: true; the input reads as it did. -/
def parseJoinsUptoRow : OpenClaim := { program := "ytmnfhmbmifompaadoor", sum := "4cd8b6e010486d19c33fa7bcb15fdccb3f94be5c82bb1342e8fc6c0820779a2a", func := "edict/edictlaw03.ParseJoins", spec := "parseJoins", unfollowed := true, recurses := true, named := ["edict/lex.signs", "strconv.ErrSyntax", "strconv.ErrRange", "internal/strconv.uint64pow10", "math/bits.deBruijn32tab", "math/bits.deBruijn64tab"], apart := false, laid := [("math/bits.deBruijn32tab", laid_math_bits_deBruijn32tab), ("math/bits.deBruijn64tab", laid_math_bits_deBruijn64tab), ("internal/strconv.uint64pow10", laid_internal_strconv_uint64pow10), ("strconv.ErrRange", laid_strconv_ErrRange), ("strconv.ErrSyntax", laid_strconv_ErrSyntax), ("edict/lex.signs", laid_edict_lex_signs)], narrowed := true }
def ParseJoinsUptoSaid : Prop := parseJoinsUptoRow.holds Tryd.pinned (OpenSpec.upto parseJoinsSpec)

/-- 'edictlaw03.ParseGround', WHERE WHAT IT READS IS OF BULK AT MOST 1048576: true; the input reads as it did. -/
def parseGroundUptoRow : OpenClaim := { program := "ytmnfhmbmifompaadoor", sum := "4cd8b6e010486d19c33fa7bcb15fdccb3f94be5c82bb1342e8fc6c0820779a2a", func := "edict/edictlaw03.ParseGround", spec := "parseGround", unfollowed := true, recurses := true, named := ["edict/lex.signs", "strconv.ErrSyntax", "strconv.ErrRange", "internal/strconv.uint64pow10", "math/bits.deBruijn32tab", "math/bits.deBruijn64tab"], apart := false, laid := [("math/bits.deBruijn32tab", laid_math_bits_deBruijn32tab), ("math/bits.deBruijn64tab", laid_math_bits_deBruijn64tab), ("internal/strconv.uint64pow10", laid_internal_strconv_uint64pow10), ("strconv.ErrRange", laid_strconv_ErrRange), ("strconv.ErrSyntax", laid_strconv_ErrSyntax), ("edict/lex.signs", laid_edict_lex_signs)], narrowed := true }
def ParseGroundUptoSaid : Prop := parseGroundUptoRow.holds Tryd.pinned (OpenSpec.upto parseGroundSpec)

/-- 'edictlaw03.ParseSpellsFacts', WHERE WHAT IT READS IS OF BULK AT MOST 1048576: true; the input reads as it did. -/
def parseSpellsFactsUptoRow : OpenClaim := { program := "ytmnfhmbmifompaadoor", sum := "4cd8b6e010486d19c33fa7bcb15fdccb3f94be5c82bb1342e8fc6c0820779a2a", func := "edict/edictlaw03.ParseSpellsFacts", spec := "parseSpellsFacts", unfollowed := true, recurses := true, named := ["edict/lex.signs", "strconv.ErrSyntax", "strconv.ErrRange", "internal/strconv.uint64pow10", "math/bits.deBruijn32tab", "math/bits.deBruijn64tab"], apart := false, laid := [("math/bits.deBruijn32tab", laid_math_bits_deBruijn32tab), ("math/bits.deBruijn64tab", laid_math_bits_deBruijn64tab), ("internal/strconv.uint64pow10", laid_internal_strconv_uint64pow10), ("strconv.ErrRange", laid_strconv_ErrRange), ("strconv.ErrSyntax", laid_strconv_ErrSyntax), ("edict/lex.signs", laid_edict_lex_signs)], narrowed := true }
def ParseSpellsFactsUptoSaid : Prop := parseSpellsFactsUptoRow.holds Tryd.pinned (OpenSpec.upto parseSpellsFactsSpec)

/-- 'edictlaw03.ParseMakesFacts', WHERE WHAT IT READS IS OF BULK AT MOST 1048576: true; the input reads as it did. -/
def parseMakesFactsUptoRow : OpenClaim := { program := "ytmnfhmbmifompaadoor", sum := "4cd8b6e010486d19c33fa7bcb15fdccb3f94be5c82bb1342e8fc6c0820779a2a", func := "edict/edictlaw03.ParseMakesFacts", spec := "parseMakesFacts", unfollowed := true, recurses := true, named := ["internal/strconv.uint64pow10", "math/bits.deBruijn32tab", "math/bits.deBruijn64tab", "edict/lex.signs", "strconv.ErrSyntax", "strconv.ErrRange"], apart := false, laid := [("math/bits.deBruijn32tab", laid_math_bits_deBruijn32tab), ("math/bits.deBruijn64tab", laid_math_bits_deBruijn64tab), ("internal/strconv.uint64pow10", laid_internal_strconv_uint64pow10), ("strconv.ErrRange", laid_strconv_ErrRange), ("strconv.ErrSyntax", laid_strconv_ErrSyntax), ("edict/lex.signs", laid_edict_lex_signs)], narrowed := true }
def ParseMakesFactsUptoSaid : Prop := parseMakesFactsUptoRow.holds Tryd.pinned (OpenSpec.upto parseMakesFactsSpec)

/-- 'edictlaw03.ParseOneOfFacts', WHERE WHAT IT READS IS OF BULK AT MOST 1048576: true; the input reads as it did. -/
def parseOneOfFactsUptoRow : OpenClaim := { program := "ytmnfhmbmifompaadoor", sum := "4cd8b6e010486d19c33fa7bcb15fdccb3f94be5c82bb1342e8fc6c0820779a2a", func := "edict/edictlaw03.ParseOneOfFacts", spec := "parseOneOfFacts", unfollowed := true, recurses := true, named := ["edict/lex.signs", "strconv.ErrSyntax", "strconv.ErrRange", "internal/strconv.uint64pow10", "math/bits.deBruijn32tab", "math/bits.deBruijn64tab"], apart := false, laid := [("math/bits.deBruijn32tab", laid_math_bits_deBruijn32tab), ("math/bits.deBruijn64tab", laid_math_bits_deBruijn64tab), ("internal/strconv.uint64pow10", laid_internal_strconv_uint64pow10), ("strconv.ErrRange", laid_strconv_ErrRange), ("strconv.ErrSyntax", laid_strconv_ErrSyntax), ("edict/lex.signs", laid_edict_lex_signs)], narrowed := true }
def ParseOneOfFactsUptoSaid : Prop := parseOneOfFactsUptoRow.holds Tryd.pinned (OpenSpec.upto parseOneOfFactsSpec)

/-- 'edictlaw03.ParseStops', WHERE WHAT IT READS IS OF BULK AT MOST 1048576: true; the input reads as it did. -/
def parseStopsUptoRow : OpenClaim := { program := "ytmnfhmbmifompaadoor", sum := "4cd8b6e010486d19c33fa7bcb15fdccb3f94be5c82bb1342e8fc6c0820779a2a", func := "edict/edictlaw03.ParseStops", spec := "parseStops", unfollowed := true, recurses := true, named := ["edict/lex.signs", "strconv.ErrSyntax", "strconv.ErrRange", "internal/strconv.uint64pow10", "math/bits.deBruijn32tab", "math/bits.deBruijn64tab"], apart := false, laid := [("math/bits.deBruijn32tab", laid_math_bits_deBruijn32tab), ("math/bits.deBruijn64tab", laid_math_bits_deBruijn64tab), ("internal/strconv.uint64pow10", laid_internal_strconv_uint64pow10), ("strconv.ErrRange", laid_strconv_ErrRange), ("strconv.ErrSyntax", laid_strconv_ErrSyntax), ("edict/lex.signs", laid_edict_lex_signs)], narrowed := true }
def ParseStopsUptoSaid : Prop := parseStopsUptoRow.holds Tryd.pinned (OpenSpec.upto parseStopsSpec)

/-- 'edictlaw03.ParseBehind', WHERE WHAT IT READS IS OF BULK AT MOST 1048576: true; the input reads as it did. -/
def parseBehindUptoRow : OpenClaim := { program := "ytmnfhmbmifompaadoor", sum := "4cd8b6e010486d19c33fa7bcb15fdccb3f94be5c82bb1342e8fc6c0820779a2a", func := "edict/edictlaw03.ParseBehind", spec := "parseBehind", unfollowed := true, recurses := true, named := ["edict/lex.signs", "strconv.ErrSyntax", "strconv.ErrRange", "internal/strconv.uint64pow10", "math/bits.deBruijn32tab", "math/bits.deBruijn64tab"], apart := false, laid := [("math/bits.deBruijn32tab", laid_math_bits_deBruijn32tab), ("math/bits.deBruijn64tab", laid_math_bits_deBruijn64tab), ("internal/strconv.uint64pow10", laid_internal_strconv_uint64pow10), ("strconv.ErrRange", laid_strconv_ErrRange), ("strconv.ErrSyntax", laid_strconv_ErrSyntax), ("edict/lex.signs", laid_edict_lex_signs)], narrowed := true }
def ParseBehindUptoSaid : Prop := parseBehindUptoRow.holds Tryd.pinned (OpenSpec.upto parseBehindSpec)

/-- 'edictlaw03.ParseLimits', WHERE WHAT IT READS IS OF BULK AT MOST 1048576: true; the input reads as it did. -/
def parseLimitsUptoRow : OpenClaim := { program := "ytmnfhmbmifompaadoor", sum := "4cd8b6e010486d19c33fa7bcb15fdccb3f94be5c82bb1342e8fc6c0820779a2a", func := "edict/edictlaw03.ParseLimits", spec := "parseLimits", unfollowed := true, recurses := true, named := ["edict/lex.signs", "strconv.ErrSyntax", "strconv.ErrRange", "internal/strconv.uint64pow10", "math/bits.deBruijn32tab", "math/bits.deBruijn64tab"], apart := false, laid := [("math/bits.deBruijn32tab", laid_math_bits_deBruijn32tab), ("math/bits.deBruijn64tab", laid_math_bits_deBruijn64tab), ("internal/strconv.uint64pow10", laid_internal_strconv_uint64pow10), ("strconv.ErrRange", laid_strconv_ErrRange), ("strconv.ErrSyntax", laid_strconv_ErrSyntax), ("edict/lex.signs", laid_edict_lex_signs)], narrowed := true }
def ParseLimitsUptoSaid : Prop := parseLimitsUptoRow.holds Tryd.pinned (OpenSpec.upto parseLimitsSpec)

/-- 'edictlaw03.ParseLong', WHERE WHAT IT READS IS OF BULK AT MOST 1048576: true; the input reads as it did. -/
def parseLongUptoRow : OpenClaim := { program := "ytmnfhmbmifompaadoor", sum := "4cd8b6e010486d19c33fa7bcb15fdccb3f94be5c82bb1342e8fc6c0820779a2a", func := "edict/edictlaw03.ParseLong", spec := "parseLong", unfollowed := true, recurses := true, named := ["edict/lex.signs", "strconv.ErrSyntax", "strconv.ErrRange", "internal/strconv.uint64pow10", "math/bits.deBruijn32tab", "math/bits.deBruijn64tab"], apart := false, laid := [("math/bits.deBruijn32tab", laid_math_bits_deBruijn32tab), ("math/bits.deBruijn64tab", laid_math_bits_deBruijn64tab), ("internal/strconv.uint64pow10", laid_internal_strconv_uint64pow10), ("strconv.ErrRange", laid_strconv_ErrRange), ("strconv.ErrSyntax", laid_strconv_ErrSyntax), ("edict/lex.signs", laid_edict_lex_signs)], narrowed := true }
def ParseLongUptoSaid : Prop := parseLongUptoRow.holds Tryd.pinned (OpenSpec.upto parseLongSpec)

/-- 'edictlaw03.ParseOwn', WHERE WHAT IT READS IS OF BULK AT MOST 1048576: true; the input reads as it did. -/
def parseOwnUptoRow : OpenClaim := { program := "ytmnfhmbmifompaadoor", sum := "4cd8b6e010486d19c33fa7bcb15fdccb3f94be5c82bb1342e8fc6c0820779a2a", func := "edict/edictlaw03.ParseOwn", spec := "parseOwn", unfollowed := true, recurses := true, named := ["edict/lex.signs", "strconv.ErrSyntax", "strconv.ErrRange", "internal/strconv.uint64pow10", "math/bits.deBruijn32tab", "math/bits.deBruijn64tab"], apart := false, laid := [("math/bits.deBruijn32tab", laid_math_bits_deBruijn32tab), ("math/bits.deBruijn64tab", laid_math_bits_deBruijn64tab), ("internal/strconv.uint64pow10", laid_internal_strconv_uint64pow10), ("strconv.ErrRange", laid_strconv_ErrRange), ("strconv.ErrSyntax", laid_strconv_ErrSyntax), ("edict/lex.signs", laid_edict_lex_signs)], narrowed := true }
def ParseOwnUptoSaid : Prop := parseOwnUptoRow.holds Tryd.pinned (OpenSpec.upto parseOwnSpec)

end Rows
end Go.Proofs.YtmnfhmbmifompaaDoor
