/-
  NARROWER THAN 'FOR EVERY INPUT', by the rows' own cells (each row's printed sentence says how): LexEach: laid · LexNames: laid · LexScan: laid · LexAlone: laid · LexSpaced: laid · LexMore: laid · LexFirst: laid · LexStops: laid · LexSpelled: laid · LexGaps: laid · LexNothing: laid · LexAll: laid.
  DERIVED. THE GIVEN ROWS OF THIS SEAT. 12 by the template 'for every input the law returns true; each argument reads behind the call as it read before'; 0 by the template 'total and deterministic' (their statements: YtbkpmdgeeolifaaDoorTotals.lean).
  GIVEN WITH THE SEED: the statements are not yours to turn. If you find one false, say at which input.
  Laid BY PROGRAM, IN A SANDBOX (cutbox-rows.mjs): the forced cells as the released guide's own fill.sh prints them over the translation 83338169e5b3c854… (all of the seat's roots in one cut). By AI agents, Wed Nov 11 2026. No macro, syntax, notation, axiom, sorry.
-/
import Derived.Test.YtbkpmdgeeolifaaDoorChecked
import GoSem.Claim
import GoSem.ClaimJoined
import GoSem.ClaimMapViews
import Derived.JoinedTies
import Derived.KernelRfl
namespace Go.Proofs.YtbkpmdgeeolifaaDoor
/- THE CELL 'sum', in the pinned program and in every row, IS THE sha256 OF THE DUMP (.gsa) THAT YtbkpmdgeeolifaaDoorProg.lean LOADS. Nothing in Lean hashes anything: it is a label: what it is worth is what the hold of that sum in a sandbox is worth. -/
noncomputable def Tryd.pinned : Pinned := { name := "ytbkpmdgeeolifaadoor", sum := "83338169e5b3c854acf09ef2c467192c776427767ef9ffe7d5d76ada812bdb86", checked := Tryd.checked }
namespace Rows
def none {H : Type} : Left H := { results := [], args := [] }

/- WHAT THE LISTED PACKAGE-LEVEL VARIABLES READ AS WHEN THE CALL BEGINS. Each datum BY PROGRAM (the guide's laid-datum.mjs) off the statement by which the dump's own 'gosem.cut.vars' lays the variable. In a bare row this is a premise. The card (YtbkpmdgeeolifaaDoorCards.lean) ties it to the program's text. -/
def laid_math_bits_deBruijn32tab {H : Type} : DataW H := .agg [.lit (.int .u8 0), .lit (.int .u8 1), .lit (.int .u8 28), .lit (.int .u8 2), .lit (.int .u8 29), .lit (.int .u8 14), .lit (.int .u8 24), .lit (.int .u8 3), .lit (.int .u8 30), .lit (.int .u8 22), .lit (.int .u8 20), .lit (.int .u8 15), .lit (.int .u8 25), .lit (.int .u8 17), .lit (.int .u8 4), .lit (.int .u8 8), .lit (.int .u8 31), .lit (.int .u8 27), .lit (.int .u8 13), .lit (.int .u8 23), .lit (.int .u8 21), .lit (.int .u8 19), .lit (.int .u8 16), .lit (.int .u8 7), .lit (.int .u8 26), .lit (.int .u8 12), .lit (.int .u8 18), .lit (.int .u8 6), .lit (.int .u8 11), .lit (.int .u8 5), .lit (.int .u8 10), .lit (.int .u8 9)]
def laid_math_bits_deBruijn64tab {H : Type} : DataW H := .agg [.lit (.int .u8 0), .lit (.int .u8 1), .lit (.int .u8 56), .lit (.int .u8 2), .lit (.int .u8 57), .lit (.int .u8 49), .lit (.int .u8 28), .lit (.int .u8 3), .lit (.int .u8 61), .lit (.int .u8 58), .lit (.int .u8 42), .lit (.int .u8 50), .lit (.int .u8 38), .lit (.int .u8 29), .lit (.int .u8 17), .lit (.int .u8 4), .lit (.int .u8 62), .lit (.int .u8 47), .lit (.int .u8 59), .lit (.int .u8 36), .lit (.int .u8 45), .lit (.int .u8 43), .lit (.int .u8 51), .lit (.int .u8 22), .lit (.int .u8 53), .lit (.int .u8 39), .lit (.int .u8 33), .lit (.int .u8 30), .lit (.int .u8 24), .lit (.int .u8 18), .lit (.int .u8 12), .lit (.int .u8 5), .lit (.int .u8 63), .lit (.int .u8 55), .lit (.int .u8 48), .lit (.int .u8 27), .lit (.int .u8 60), .lit (.int .u8 41), .lit (.int .u8 37), .lit (.int .u8 16), .lit (.int .u8 46), .lit (.int .u8 35), .lit (.int .u8 44), .lit (.int .u8 21), .lit (.int .u8 52), .lit (.int .u8 32), .lit (.int .u8 23), .lit (.int .u8 11), .lit (.int .u8 54), .lit (.int .u8 26), .lit (.int .u8 40), .lit (.int .u8 15), .lit (.int .u8 34), .lit (.int .u8 20), .lit (.int .u8 31), .lit (.int .u8 10), .lit (.int .u8 25), .lit (.int .u8 14), .lit (.int .u8 19), .lit (.int .u8 9), .lit (.int .u8 13), .lit (.int .u8 8), .lit (.int .u8 7), .lit (.int .u8 6)]
def laid_internal_strconv_uint64pow10 {H : Type} : DataW H := .agg [.lit (.int .u64 1), .lit (.int .u64 10), .lit (.int .u64 100), .lit (.int .u64 1000), .lit (.int .u64 10000), .lit (.int .u64 100000), .lit (.int .u64 1000000), .lit (.int .u64 10000000), .lit (.int .u64 100000000), .lit (.int .u64 1000000000), .lit (.int .u64 10000000000), .lit (.int .u64 100000000000), .lit (.int .u64 1000000000000), .lit (.int .u64 10000000000000), .lit (.int .u64 100000000000000), .lit (.int .u64 1000000000000000), .lit (.int .u64 10000000000000000), .lit (.int .u64 100000000000000000), .lit (.int .u64 1000000000000000000), .lit (.int .u64 10000000000000000000)]
def laid_strconv_ErrRange {H : Type} : DataW H := .iface "*errors.errorString" (.ptr (.agg [.lit (.string [118, 97, 108, 117, 101, 32, 111, 117, 116, 32, 111, 102, 32, 114, 97, 110, 103, 101])]))
def laid_strconv_ErrSyntax {H : Type} : DataW H := .iface "*errors.errorString" (.ptr (.agg [.lit (.string [105, 110, 118, 97, 108, 105, 100, 32, 115, 121, 110, 116, 97, 120])]))
def laid_edict_lex_signs {H : Type} : DataW H := .slice [.agg [.lit (.string [58, 45]), .lit (.int .i64 9), .lit (.int .i64 0)], .agg [.lit (.string [33, 61]), .lit (.int .i64 11), .lit (.int .i64 2)], .agg [.lit (.string [60, 61]), .lit (.int .i64 11), .lit (.int .i64 4)], .agg [.lit (.string [62, 61]), .lit (.int .i64 11), .lit (.int .i64 6)], .agg [.lit (.string [60]), .lit (.int .i64 11), .lit (.int .i64 3)], .agg [.lit (.string [62]), .lit (.int .i64 11), .lit (.int .i64 5)], .agg [.lit (.string [61]), .lit (.int .i64 11), .lit (.int .i64 1)], .agg [.lit (.string [40]), .lit (.int .i64 5), .lit (.int .i64 0)], .agg [.lit (.string [41]), .lit (.int .i64 6), .lit (.int .i64 0)], .agg [.lit (.string [44]), .lit (.int .i64 7), .lit (.int .i64 0)], .agg [.lit (.string [46]), .lit (.int .i64 8), .lit (.int .i64 0)]] []

/-- 'edictlaw02.LexEach': WHATEVER THE INPUT: true; the input reads as it did. -/
def lexEachSpec : ChangeSpec := { name := "lexEach", fn := fun _ => fun
  | [d1, d2] => { results := [.lit (.bool true)], args := [d1, d2] }
  | _ => none }
def lexEachRow : OpenClaim := { program := "ytbkpmdgeeolifaadoor", sum := "83338169e5b3c854acf09ef2c467192c776427767ef9ffe7d5d76ada812bdb86", func := "edict/edictlaw02.LexEach", spec := "lexEach", unfollowed := true, recurses := true, named := ["edict/lex.signs", "strconv.ErrSyntax", "strconv.ErrRange", "internal/strconv.uint64pow10", "math/bits.deBruijn32tab", "math/bits.deBruijn64tab"], apart := false, laid := [("math/bits.deBruijn32tab", laid_math_bits_deBruijn32tab), ("math/bits.deBruijn64tab", laid_math_bits_deBruijn64tab), ("internal/strconv.uint64pow10", laid_internal_strconv_uint64pow10), ("strconv.ErrRange", laid_strconv_ErrRange), ("strconv.ErrSyntax", laid_strconv_ErrSyntax), ("edict/lex.signs", laid_edict_lex_signs)] }
def LexEachSaid : Prop := lexEachRow.holds Tryd.pinned (OpenSpec.ofChange lexEachSpec)

/-- ITS FALSE NEIGHBOUR: 'it returns false'. Refute it at one input. -/
def lexEachWrong : ChangeSpec := { name := "lexEach", fn := fun _ => fun
  | [d1, d2] => { results := [.lit (.bool false)], args := [d1, d2] }
  | _ => none }
def LexEachWrongFalsely : Prop := lexEachRow.holds Tryd.pinned (OpenSpec.ofChange lexEachWrong)

/-- 'edictlaw02.LexNames': WHATEVER THE INPUT: true; the input reads as it did. -/
def lexNamesSpec : ChangeSpec := { name := "lexNames", fn := fun _ => fun
  | [] => { results := [.lit (.bool true)], args := [] }
  | _ => none }
def lexNamesRow : OpenClaim := { program := "ytbkpmdgeeolifaadoor", sum := "83338169e5b3c854acf09ef2c467192c776427767ef9ffe7d5d76ada812bdb86", func := "edict/edictlaw02.LexNames", spec := "lexNames", unfollowed := true, recurses := true, named := ["edict/lex.signs", "strconv.ErrSyntax", "strconv.ErrRange", "internal/strconv.uint64pow10", "math/bits.deBruijn32tab", "math/bits.deBruijn64tab"], apart := false, laid := [("math/bits.deBruijn32tab", laid_math_bits_deBruijn32tab), ("math/bits.deBruijn64tab", laid_math_bits_deBruijn64tab), ("internal/strconv.uint64pow10", laid_internal_strconv_uint64pow10), ("strconv.ErrRange", laid_strconv_ErrRange), ("strconv.ErrSyntax", laid_strconv_ErrSyntax), ("edict/lex.signs", laid_edict_lex_signs)] }
def LexNamesSaid : Prop := lexNamesRow.holds Tryd.pinned (OpenSpec.ofChange lexNamesSpec)

/-- ITS FALSE NEIGHBOUR: 'it returns false'. Refute it at one input. -/
def lexNamesWrong : ChangeSpec := { name := "lexNames", fn := fun _ => fun
  | [] => { results := [.lit (.bool false)], args := [] }
  | _ => none }
def LexNamesWrongFalsely : Prop := lexNamesRow.holds Tryd.pinned (OpenSpec.ofChange lexNamesWrong)

/-- 'edictlaw02.LexScan': WHATEVER THE INPUT: true; the input reads as it did. -/
def lexScanSpec : ChangeSpec := { name := "lexScan", fn := fun _ => fun
  | [d] => { results := [.lit (.bool true)], args := [d] }
  | _ => none }
def lexScanRow : OpenClaim := { program := "ytbkpmdgeeolifaadoor", sum := "83338169e5b3c854acf09ef2c467192c776427767ef9ffe7d5d76ada812bdb86", func := "edict/edictlaw02.LexScan", spec := "lexScan", unfollowed := true, recurses := true, named := ["edict/lex.signs", "strconv.ErrSyntax", "strconv.ErrRange", "internal/strconv.uint64pow10", "math/bits.deBruijn32tab", "math/bits.deBruijn64tab"], apart := false, laid := [("math/bits.deBruijn32tab", laid_math_bits_deBruijn32tab), ("math/bits.deBruijn64tab", laid_math_bits_deBruijn64tab), ("internal/strconv.uint64pow10", laid_internal_strconv_uint64pow10), ("strconv.ErrRange", laid_strconv_ErrRange), ("strconv.ErrSyntax", laid_strconv_ErrSyntax), ("edict/lex.signs", laid_edict_lex_signs)] }
def LexScanSaid : Prop := lexScanRow.holds Tryd.pinned (OpenSpec.ofChange lexScanSpec)

/-- ITS FALSE NEIGHBOUR: 'it returns false'. Refute it at one input. -/
def lexScanWrong : ChangeSpec := { name := "lexScan", fn := fun _ => fun
  | [d] => { results := [.lit (.bool false)], args := [d] }
  | _ => none }
def LexScanWrongFalsely : Prop := lexScanRow.holds Tryd.pinned (OpenSpec.ofChange lexScanWrong)

/-- 'edictlaw02.LexAlone': WHATEVER THE INPUT: true; the input reads as it did. -/
def lexAloneSpec : ChangeSpec := { name := "lexAlone", fn := fun _ => fun
  | [d] => { results := [.lit (.bool true)], args := [d] }
  | _ => none }
def lexAloneRow : OpenClaim := { program := "ytbkpmdgeeolifaadoor", sum := "83338169e5b3c854acf09ef2c467192c776427767ef9ffe7d5d76ada812bdb86", func := "edict/edictlaw02.LexAlone", spec := "lexAlone", unfollowed := true, recurses := true, named := ["edict/lex.signs", "strconv.ErrSyntax", "strconv.ErrRange", "internal/strconv.uint64pow10", "math/bits.deBruijn32tab", "math/bits.deBruijn64tab"], apart := false, laid := [("math/bits.deBruijn32tab", laid_math_bits_deBruijn32tab), ("math/bits.deBruijn64tab", laid_math_bits_deBruijn64tab), ("internal/strconv.uint64pow10", laid_internal_strconv_uint64pow10), ("strconv.ErrRange", laid_strconv_ErrRange), ("strconv.ErrSyntax", laid_strconv_ErrSyntax), ("edict/lex.signs", laid_edict_lex_signs)] }
def LexAloneSaid : Prop := lexAloneRow.holds Tryd.pinned (OpenSpec.ofChange lexAloneSpec)

/-- ITS FALSE NEIGHBOUR: 'it returns false'. Refute it at one input. -/
def lexAloneWrong : ChangeSpec := { name := "lexAlone", fn := fun _ => fun
  | [d] => { results := [.lit (.bool false)], args := [d] }
  | _ => none }
def LexAloneWrongFalsely : Prop := lexAloneRow.holds Tryd.pinned (OpenSpec.ofChange lexAloneWrong)

/-- 'edictlaw02.LexSpaced': WHATEVER THE INPUT: true; the input reads as it did. -/
def lexSpacedSpec : ChangeSpec := { name := "lexSpaced", fn := fun _ => fun
  | [d] => { results := [.lit (.bool true)], args := [d] }
  | _ => none }
def lexSpacedRow : OpenClaim := { program := "ytbkpmdgeeolifaadoor", sum := "83338169e5b3c854acf09ef2c467192c776427767ef9ffe7d5d76ada812bdb86", func := "edict/edictlaw02.LexSpaced", spec := "lexSpaced", unfollowed := true, recurses := true, named := ["edict/lex.signs", "strconv.ErrSyntax", "strconv.ErrRange", "internal/strconv.uint64pow10", "math/bits.deBruijn32tab", "math/bits.deBruijn64tab"], apart := false, laid := [("math/bits.deBruijn32tab", laid_math_bits_deBruijn32tab), ("math/bits.deBruijn64tab", laid_math_bits_deBruijn64tab), ("internal/strconv.uint64pow10", laid_internal_strconv_uint64pow10), ("strconv.ErrRange", laid_strconv_ErrRange), ("strconv.ErrSyntax", laid_strconv_ErrSyntax), ("edict/lex.signs", laid_edict_lex_signs)] }
def LexSpacedSaid : Prop := lexSpacedRow.holds Tryd.pinned (OpenSpec.ofChange lexSpacedSpec)

/-- ITS FALSE NEIGHBOUR: 'it returns false'. Refute it at one input. -/
def lexSpacedWrong : ChangeSpec := { name := "lexSpaced", fn := fun _ => fun
  | [d] => { results := [.lit (.bool false)], args := [d] }
  | _ => none }
def LexSpacedWrongFalsely : Prop := lexSpacedRow.holds Tryd.pinned (OpenSpec.ofChange lexSpacedWrong)

/-- 'edictlaw02.LexMore': WHATEVER THE INPUT: true; the input reads as it did. -/
def lexMoreSpec : ChangeSpec := { name := "lexMore", fn := fun _ => fun
  | [d1, d2] => { results := [.lit (.bool true)], args := [d1, d2] }
  | _ => none }
def lexMoreRow : OpenClaim := { program := "ytbkpmdgeeolifaadoor", sum := "83338169e5b3c854acf09ef2c467192c776427767ef9ffe7d5d76ada812bdb86", func := "edict/edictlaw02.LexMore", spec := "lexMore", unfollowed := true, recurses := true, named := ["edict/lex.signs", "strconv.ErrSyntax", "strconv.ErrRange", "internal/strconv.uint64pow10", "math/bits.deBruijn32tab", "math/bits.deBruijn64tab"], apart := false, laid := [("math/bits.deBruijn32tab", laid_math_bits_deBruijn32tab), ("math/bits.deBruijn64tab", laid_math_bits_deBruijn64tab), ("internal/strconv.uint64pow10", laid_internal_strconv_uint64pow10), ("strconv.ErrRange", laid_strconv_ErrRange), ("strconv.ErrSyntax", laid_strconv_ErrSyntax), ("edict/lex.signs", laid_edict_lex_signs)] }
def LexMoreSaid : Prop := lexMoreRow.holds Tryd.pinned (OpenSpec.ofChange lexMoreSpec)

/-- ITS FALSE NEIGHBOUR: 'it returns false'. Refute it at one input. -/
def lexMoreWrong : ChangeSpec := { name := "lexMore", fn := fun _ => fun
  | [d1, d2] => { results := [.lit (.bool false)], args := [d1, d2] }
  | _ => none }
def LexMoreWrongFalsely : Prop := lexMoreRow.holds Tryd.pinned (OpenSpec.ofChange lexMoreWrong)

/-- 'edictlaw02.LexFirst': WHATEVER THE INPUT: true; the input reads as it did. -/
def lexFirstSpec : ChangeSpec := { name := "lexFirst", fn := fun _ => fun
  | [d] => { results := [.lit (.bool true)], args := [d] }
  | _ => none }
def lexFirstRow : OpenClaim := { program := "ytbkpmdgeeolifaadoor", sum := "83338169e5b3c854acf09ef2c467192c776427767ef9ffe7d5d76ada812bdb86", func := "edict/edictlaw02.LexFirst", spec := "lexFirst", unfollowed := true, recurses := true, named := ["edict/lex.signs", "strconv.ErrSyntax", "strconv.ErrRange", "internal/strconv.uint64pow10", "math/bits.deBruijn32tab", "math/bits.deBruijn64tab"], apart := false, laid := [("math/bits.deBruijn32tab", laid_math_bits_deBruijn32tab), ("math/bits.deBruijn64tab", laid_math_bits_deBruijn64tab), ("internal/strconv.uint64pow10", laid_internal_strconv_uint64pow10), ("strconv.ErrRange", laid_strconv_ErrRange), ("strconv.ErrSyntax", laid_strconv_ErrSyntax), ("edict/lex.signs", laid_edict_lex_signs)] }
def LexFirstSaid : Prop := lexFirstRow.holds Tryd.pinned (OpenSpec.ofChange lexFirstSpec)

/-- ITS FALSE NEIGHBOUR: 'it returns false'. Refute it at one input. -/
def lexFirstWrong : ChangeSpec := { name := "lexFirst", fn := fun _ => fun
  | [d] => { results := [.lit (.bool false)], args := [d] }
  | _ => none }
def LexFirstWrongFalsely : Prop := lexFirstRow.holds Tryd.pinned (OpenSpec.ofChange lexFirstWrong)

/-- 'edictlaw02.LexStops': WHATEVER THE INPUT: true; the input reads as it did. -/
def lexStopsSpec : ChangeSpec := { name := "lexStops", fn := fun _ => fun
  | [d1, d2] => { results := [.lit (.bool true)], args := [d1, d2] }
  | _ => none }
def lexStopsRow : OpenClaim := { program := "ytbkpmdgeeolifaadoor", sum := "83338169e5b3c854acf09ef2c467192c776427767ef9ffe7d5d76ada812bdb86", func := "edict/edictlaw02.LexStops", spec := "lexStops", unfollowed := true, recurses := true, named := ["edict/lex.signs", "strconv.ErrSyntax", "strconv.ErrRange", "internal/strconv.uint64pow10", "math/bits.deBruijn32tab", "math/bits.deBruijn64tab"], apart := false, laid := [("math/bits.deBruijn32tab", laid_math_bits_deBruijn32tab), ("math/bits.deBruijn64tab", laid_math_bits_deBruijn64tab), ("internal/strconv.uint64pow10", laid_internal_strconv_uint64pow10), ("strconv.ErrRange", laid_strconv_ErrRange), ("strconv.ErrSyntax", laid_strconv_ErrSyntax), ("edict/lex.signs", laid_edict_lex_signs)] }
def LexStopsSaid : Prop := lexStopsRow.holds Tryd.pinned (OpenSpec.ofChange lexStopsSpec)

/-- ITS FALSE NEIGHBOUR: 'it returns false'. Refute it at one input. -/
def lexStopsWrong : ChangeSpec := { name := "lexStops", fn := fun _ => fun
  | [d1, d2] => { results := [.lit (.bool false)], args := [d1, d2] }
  | _ => none }
def LexStopsWrongFalsely : Prop := lexStopsRow.holds Tryd.pinned (OpenSpec.ofChange lexStopsWrong)

/-- 'edictlaw02.LexSpelled': WHATEVER THE INPUT: true; the input reads as it did. -/
def lexSpelledSpec : ChangeSpec := { name := "lexSpelled", fn := fun _ => fun
  | [d] => { results := [.lit (.bool true)], args := [d] }
  | _ => none }
def lexSpelledRow : OpenClaim := { program := "ytbkpmdgeeolifaadoor", sum := "83338169e5b3c854acf09ef2c467192c776427767ef9ffe7d5d76ada812bdb86", func := "edict/edictlaw02.LexSpelled", spec := "lexSpelled", unfollowed := true, recurses := true, named := ["internal/strconv.uint64pow10", "math/bits.deBruijn32tab", "math/bits.deBruijn64tab", "edict/lex.signs", "strconv.ErrSyntax", "strconv.ErrRange"], apart := false, laid := [("math/bits.deBruijn32tab", laid_math_bits_deBruijn32tab), ("math/bits.deBruijn64tab", laid_math_bits_deBruijn64tab), ("internal/strconv.uint64pow10", laid_internal_strconv_uint64pow10), ("strconv.ErrRange", laid_strconv_ErrRange), ("strconv.ErrSyntax", laid_strconv_ErrSyntax), ("edict/lex.signs", laid_edict_lex_signs)] }
def LexSpelledSaid : Prop := lexSpelledRow.holds Tryd.pinned (OpenSpec.ofChange lexSpelledSpec)

/-- ITS FALSE NEIGHBOUR: 'it returns false'. Refute it at one input. -/
def lexSpelledWrong : ChangeSpec := { name := "lexSpelled", fn := fun _ => fun
  | [d] => { results := [.lit (.bool false)], args := [d] }
  | _ => none }
def LexSpelledWrongFalsely : Prop := lexSpelledRow.holds Tryd.pinned (OpenSpec.ofChange lexSpelledWrong)

/-- 'edictlaw02.LexGaps': WHATEVER THE INPUT: true; the input reads as it did. -/
def lexGapsSpec : ChangeSpec := { name := "lexGaps", fn := fun _ => fun
  | [d] => { results := [.lit (.bool true)], args := [d] }
  | _ => none }
def lexGapsRow : OpenClaim := { program := "ytbkpmdgeeolifaadoor", sum := "83338169e5b3c854acf09ef2c467192c776427767ef9ffe7d5d76ada812bdb86", func := "edict/edictlaw02.LexGaps", spec := "lexGaps", unfollowed := true, recurses := true, named := ["edict/lex.signs", "strconv.ErrSyntax", "strconv.ErrRange", "internal/strconv.uint64pow10", "math/bits.deBruijn32tab", "math/bits.deBruijn64tab"], apart := false, laid := [("math/bits.deBruijn32tab", laid_math_bits_deBruijn32tab), ("math/bits.deBruijn64tab", laid_math_bits_deBruijn64tab), ("internal/strconv.uint64pow10", laid_internal_strconv_uint64pow10), ("strconv.ErrRange", laid_strconv_ErrRange), ("strconv.ErrSyntax", laid_strconv_ErrSyntax), ("edict/lex.signs", laid_edict_lex_signs)] }
def LexGapsSaid : Prop := lexGapsRow.holds Tryd.pinned (OpenSpec.ofChange lexGapsSpec)

/-- ITS FALSE NEIGHBOUR: 'it returns false'. Refute it at one input. -/
def lexGapsWrong : ChangeSpec := { name := "lexGaps", fn := fun _ => fun
  | [d] => { results := [.lit (.bool false)], args := [d] }
  | _ => none }
def LexGapsWrongFalsely : Prop := lexGapsRow.holds Tryd.pinned (OpenSpec.ofChange lexGapsWrong)

/-- 'edictlaw02.LexNothing': WHATEVER THE INPUT: true; the input reads as it did. -/
def lexNothingSpec : ChangeSpec := { name := "lexNothing", fn := fun _ => fun
  | [d] => { results := [.lit (.bool true)], args := [d] }
  | _ => none }
def lexNothingRow : OpenClaim := { program := "ytbkpmdgeeolifaadoor", sum := "83338169e5b3c854acf09ef2c467192c776427767ef9ffe7d5d76ada812bdb86", func := "edict/edictlaw02.LexNothing", spec := "lexNothing", unfollowed := true, recurses := true, named := ["edict/lex.signs", "strconv.ErrSyntax", "strconv.ErrRange", "internal/strconv.uint64pow10", "math/bits.deBruijn32tab", "math/bits.deBruijn64tab"], apart := false, laid := [("math/bits.deBruijn32tab", laid_math_bits_deBruijn32tab), ("math/bits.deBruijn64tab", laid_math_bits_deBruijn64tab), ("internal/strconv.uint64pow10", laid_internal_strconv_uint64pow10), ("strconv.ErrRange", laid_strconv_ErrRange), ("strconv.ErrSyntax", laid_strconv_ErrSyntax), ("edict/lex.signs", laid_edict_lex_signs)] }
def LexNothingSaid : Prop := lexNothingRow.holds Tryd.pinned (OpenSpec.ofChange lexNothingSpec)

/-- ITS FALSE NEIGHBOUR: 'it returns false'. Refute it at one input. -/
def lexNothingWrong : ChangeSpec := { name := "lexNothing", fn := fun _ => fun
  | [d] => { results := [.lit (.bool false)], args := [d] }
  | _ => none }
def LexNothingWrongFalsely : Prop := lexNothingRow.holds Tryd.pinned (OpenSpec.ofChange lexNothingWrong)

/-- 'edictlaw02.LexAll': WHATEVER THE INPUT: true; the input reads as it did. -/
def lexAllSpec : ChangeSpec := { name := "lexAll", fn := fun _ => fun
  | [d] => { results := [.lit (.bool true)], args := [d] }
  | _ => none }
def lexAllRow : OpenClaim := { program := "ytbkpmdgeeolifaadoor", sum := "83338169e5b3c854acf09ef2c467192c776427767ef9ffe7d5d76ada812bdb86", func := "edict/edictlaw02.LexAll", spec := "lexAll", inPlace := ["internal/bytealg.CountString", "internal/bytealg.IndexByteString", "internal/bytealg.IndexString"], unfollowed := true, recurses := true, named := ["edict/lex.signs", "strconv.ErrSyntax", "strconv.ErrRange", "internal/strconv.uint64pow10", "math/bits.deBruijn32tab", "math/bits.deBruijn64tab", "internal/bytealg.MaxLen"], apart := false, laid := [("math/bits.deBruijn32tab", laid_math_bits_deBruijn32tab), ("math/bits.deBruijn64tab", laid_math_bits_deBruijn64tab), ("internal/strconv.uint64pow10", laid_internal_strconv_uint64pow10), ("strconv.ErrRange", laid_strconv_ErrRange), ("strconv.ErrSyntax", laid_strconv_ErrSyntax), ("edict/lex.signs", laid_edict_lex_signs)] }
def LexAllSaid : Prop := lexAllRow.holds Tryd.pinned (OpenSpec.ofChange lexAllSpec)

/-- ITS FALSE NEIGHBOUR: 'it returns false'. Refute it at one input. -/
def lexAllWrong : ChangeSpec := { name := "lexAll", fn := fun _ => fun
  | [d] => { results := [.lit (.bool false)], args := [d] }
  | _ => none }
def LexAllWrongFalsely : Prop := lexAllRow.holds Tryd.pinned (OpenSpec.ofChange lexAllWrong)

/- THE SECOND FORM. 'bulk': how many values and letters a reading holds, each counted each time it is reached (what is shared counts as often as it is met; a slice's spare places count too). A statement '..UptoSaid' is the law's where the arguments, and the package variables that the reading takes, are together of bulk at most 1048576: NARROWER than '..Said'. Prove '..Said' where nothing that the law and all that it calls make is longer than what came in: it says more and counts as full. Else prove '..UptoSaid'. A law counts once. -/
mutual
def uptoBulk {H : Type} : DataW H → Nat
  | .lit (.string bytes) => bytes.length + 1
  | .lit _ => 1
  | .nil => 1
  | .ptr d => uptoBulk d + 1
  | .slice elems spare => uptoBulkAll elems + uptoBulkAll spare + 1
  | .agg parts => uptoBulkAll parts + 1
  | .iface _ d => uptoBulk d + 1
  | .map entries => uptoBulkEntries entries + 1
  | .held _ => 1
def uptoBulkAll {H : Type} : List (DataW H) → Nat
  | [] => 0
  | d :: r => uptoBulk d + uptoBulkAll r
def uptoBulkEntries {H : Type} : List (Lit × DataW H) → Nat
  | [] => 0
  | x :: r => uptoBulkEntry x + uptoBulkEntries r
def uptoBulkEntry {H : Type} : Lit × DataW H → Nat
  | (.string bytes, d) => bytes.length + uptoBulk d + 1
  | (_, d) => uptoBulk d + 1
 end
def uptoSmall : (H : Type) → List (DataW H) → Bool := fun _ ds => decide (uptoBulkAll ds ≤ 1048576)
def OpenSpec.upto (s : _root_.Go.ChangeSpec) : _root_.Go.OpenSpec := { _root_.Go.OpenSpec.ofChange s with cond := some uptoSmall }

/-- 'edictlaw02.LexEach', WHERE WHAT IT READS IS OF BULK AT MOST 1048576: true; the input reads as it did. -/
def lexEachUptoRow : OpenClaim := { program := "ytbkpmdgeeolifaadoor", sum := "83338169e5b3c854acf09ef2c467192c776427767ef9ffe7d5d76ada812bdb86", func := "edict/edictlaw02.LexEach", spec := "lexEach", unfollowed := true, recurses := true, named := ["edict/lex.signs", "strconv.ErrSyntax", "strconv.ErrRange", "internal/strconv.uint64pow10", "math/bits.deBruijn32tab", "math/bits.deBruijn64tab"], apart := false, laid := [("math/bits.deBruijn32tab", laid_math_bits_deBruijn32tab), ("math/bits.deBruijn64tab", laid_math_bits_deBruijn64tab), ("internal/strconv.uint64pow10", laid_internal_strconv_uint64pow10), ("strconv.ErrRange", laid_strconv_ErrRange), ("strconv.ErrSyntax", laid_strconv_ErrSyntax), ("edict/lex.signs", laid_edict_lex_signs)], narrowed := true }
def LexEachUptoSaid : Prop := lexEachUptoRow.holds Tryd.pinned (OpenSpec.upto lexEachSpec)

/-- 'edictlaw02.LexNames', WHERE WHAT IT READS IS OF BULK AT MOST 1048576: true; the input reads as it did. -/
def lexNamesUptoRow : OpenClaim := { program := "ytbkpmdgeeolifaadoor", sum := "83338169e5b3c854acf09ef2c467192c776427767ef9ffe7d5d76ada812bdb86", func := "edict/edictlaw02.LexNames", spec := "lexNames", unfollowed := true, recurses := true, named := ["edict/lex.signs", "strconv.ErrSyntax", "strconv.ErrRange", "internal/strconv.uint64pow10", "math/bits.deBruijn32tab", "math/bits.deBruijn64tab"], apart := false, laid := [("math/bits.deBruijn32tab", laid_math_bits_deBruijn32tab), ("math/bits.deBruijn64tab", laid_math_bits_deBruijn64tab), ("internal/strconv.uint64pow10", laid_internal_strconv_uint64pow10), ("strconv.ErrRange", laid_strconv_ErrRange), ("strconv.ErrSyntax", laid_strconv_ErrSyntax), ("edict/lex.signs", laid_edict_lex_signs)], narrowed := true }
def LexNamesUptoSaid : Prop := lexNamesUptoRow.holds Tryd.pinned (OpenSpec.upto lexNamesSpec)

/-- 'edictlaw02.LexScan', WHERE WHAT IT READS IS OF BULK AT MOST 1048576: true; the input reads as it did. -/
def lexScanUptoRow : OpenClaim := { program := "ytbkpmdgeeolifaadoor", sum := "83338169e5b3c854acf09ef2c467192c776427767ef9ffe7d5d76ada812bdb86", func := "edict/edictlaw02.LexScan", spec := "lexScan", unfollowed := true, recurses := true, named := ["edict/lex.signs", "strconv.ErrSyntax", "strconv.ErrRange", "internal/strconv.uint64pow10", "math/bits.deBruijn32tab", "math/bits.deBruijn64tab"], apart := false, laid := [("math/bits.deBruijn32tab", laid_math_bits_deBruijn32tab), ("math/bits.deBruijn64tab", laid_math_bits_deBruijn64tab), ("internal/strconv.uint64pow10", laid_internal_strconv_uint64pow10), ("strconv.ErrRange", laid_strconv_ErrRange), ("strconv.ErrSyntax", laid_strconv_ErrSyntax), ("edict/lex.signs", laid_edict_lex_signs)], narrowed := true }
def LexScanUptoSaid : Prop := lexScanUptoRow.holds Tryd.pinned (OpenSpec.upto lexScanSpec)

/-- 'edictlaw02.LexAlone', WHERE WHAT IT READS IS OF BULK AT MOST 1048576: true; the input reads as it did. -/
def lexAloneUptoRow : OpenClaim := { program := "ytbkpmdgeeolifaadoor", sum := "83338169e5b3c854acf09ef2c467192c776427767ef9ffe7d5d76ada812bdb86", func := "edict/edictlaw02.LexAlone", spec := "lexAlone", unfollowed := true, recurses := true, named := ["edict/lex.signs", "strconv.ErrSyntax", "strconv.ErrRange", "internal/strconv.uint64pow10", "math/bits.deBruijn32tab", "math/bits.deBruijn64tab"], apart := false, laid := [("math/bits.deBruijn32tab", laid_math_bits_deBruijn32tab), ("math/bits.deBruijn64tab", laid_math_bits_deBruijn64tab), ("internal/strconv.uint64pow10", laid_internal_strconv_uint64pow10), ("strconv.ErrRange", laid_strconv_ErrRange), ("strconv.ErrSyntax", laid_strconv_ErrSyntax), ("edict/lex.signs", laid_edict_lex_signs)], narrowed := true }
def LexAloneUptoSaid : Prop := lexAloneUptoRow.holds Tryd.pinned (OpenSpec.upto lexAloneSpec)

/-- 'edictlaw02.LexSpaced', WHERE WHAT IT READS IS OF BULK AT MOST 1048576: true; the input reads as it did. -/
def lexSpacedUptoRow : OpenClaim := { program := "ytbkpmdgeeolifaadoor", sum := "83338169e5b3c854acf09ef2c467192c776427767ef9ffe7d5d76ada812bdb86", func := "edict/edictlaw02.LexSpaced", spec := "lexSpaced", unfollowed := true, recurses := true, named := ["edict/lex.signs", "strconv.ErrSyntax", "strconv.ErrRange", "internal/strconv.uint64pow10", "math/bits.deBruijn32tab", "math/bits.deBruijn64tab"], apart := false, laid := [("math/bits.deBruijn32tab", laid_math_bits_deBruijn32tab), ("math/bits.deBruijn64tab", laid_math_bits_deBruijn64tab), ("internal/strconv.uint64pow10", laid_internal_strconv_uint64pow10), ("strconv.ErrRange", laid_strconv_ErrRange), ("strconv.ErrSyntax", laid_strconv_ErrSyntax), ("edict/lex.signs", laid_edict_lex_signs)], narrowed := true }
def LexSpacedUptoSaid : Prop := lexSpacedUptoRow.holds Tryd.pinned (OpenSpec.upto lexSpacedSpec)

/-- 'edictlaw02.LexMore', WHERE WHAT IT READS IS OF BULK AT MOST 1048576: true; the input reads as it did. -/
def lexMoreUptoRow : OpenClaim := { program := "ytbkpmdgeeolifaadoor", sum := "83338169e5b3c854acf09ef2c467192c776427767ef9ffe7d5d76ada812bdb86", func := "edict/edictlaw02.LexMore", spec := "lexMore", unfollowed := true, recurses := true, named := ["edict/lex.signs", "strconv.ErrSyntax", "strconv.ErrRange", "internal/strconv.uint64pow10", "math/bits.deBruijn32tab", "math/bits.deBruijn64tab"], apart := false, laid := [("math/bits.deBruijn32tab", laid_math_bits_deBruijn32tab), ("math/bits.deBruijn64tab", laid_math_bits_deBruijn64tab), ("internal/strconv.uint64pow10", laid_internal_strconv_uint64pow10), ("strconv.ErrRange", laid_strconv_ErrRange), ("strconv.ErrSyntax", laid_strconv_ErrSyntax), ("edict/lex.signs", laid_edict_lex_signs)], narrowed := true }
def LexMoreUptoSaid : Prop := lexMoreUptoRow.holds Tryd.pinned (OpenSpec.upto lexMoreSpec)

/-- 'edictlaw02.LexFirst', WHERE WHAT IT READS IS OF BULK AT MOST 1048576: true; the input reads as it did. -/
def lexFirstUptoRow : OpenClaim := { program := "ytbkpmdgeeolifaadoor", sum := "83338169e5b3c854acf09ef2c467192c776427767ef9ffe7d5d76ada812bdb86", func := "edict/edictlaw02.LexFirst", spec := "lexFirst", unfollowed := true, recurses := true, named := ["edict/lex.signs", "strconv.ErrSyntax", "strconv.ErrRange", "internal/strconv.uint64pow10", "math/bits.deBruijn32tab", "math/bits.deBruijn64tab"], apart := false, laid := [("math/bits.deBruijn32tab", laid_math_bits_deBruijn32tab), ("math/bits.deBruijn64tab", laid_math_bits_deBruijn64tab), ("internal/strconv.uint64pow10", laid_internal_strconv_uint64pow10), ("strconv.ErrRange", laid_strconv_ErrRange), ("strconv.ErrSyntax", laid_strconv_ErrSyntax), ("edict/lex.signs", laid_edict_lex_signs)], narrowed := true }
def LexFirstUptoSaid : Prop := lexFirstUptoRow.holds Tryd.pinned (OpenSpec.upto lexFirstSpec)

/-- 'edictlaw02.LexStops', WHERE WHAT IT READS IS OF BULK AT MOST 1048576: true; the input reads as it did. -/
def lexStopsUptoRow : OpenClaim := { program := "ytbkpmdgeeolifaadoor", sum := "83338169e5b3c854acf09ef2c467192c776427767ef9ffe7d5d76ada812bdb86", func := "edict/edictlaw02.LexStops", spec := "lexStops", unfollowed := true, recurses := true, named := ["edict/lex.signs", "strconv.ErrSyntax", "strconv.ErrRange", "internal/strconv.uint64pow10", "math/bits.deBruijn32tab", "math/bits.deBruijn64tab"], apart := false, laid := [("math/bits.deBruijn32tab", laid_math_bits_deBruijn32tab), ("math/bits.deBruijn64tab", laid_math_bits_deBruijn64tab), ("internal/strconv.uint64pow10", laid_internal_strconv_uint64pow10), ("strconv.ErrRange", laid_strconv_ErrRange), ("strconv.ErrSyntax", laid_strconv_ErrSyntax), ("edict/lex.signs", laid_edict_lex_signs)], narrowed := true }
def LexStopsUptoSaid : Prop := lexStopsUptoRow.holds Tryd.pinned (OpenSpec.upto lexStopsSpec)

/-- 'edictlaw02.LexSpelled', WHERE WHAT IT READS IS OF BULK AT MOST 1048576: true; the input reads as it did. -/
def lexSpelledUptoRow : OpenClaim := { program := "ytbkpmdgeeolifaadoor", sum := "83338169e5b3c854acf09ef2c467192c776427767ef9ffe7d5d76ada812bdb86", func := "edict/edictlaw02.LexSpelled", spec := "lexSpelled", unfollowed := true, recurses := true, named := ["internal/strconv.uint64pow10", "math/bits.deBruijn32tab", "math/bits.deBruijn64tab", "edict/lex.signs", "strconv.ErrSyntax", "strconv.ErrRange"], apart := false, laid := [("math/bits.deBruijn32tab", laid_math_bits_deBruijn32tab), ("math/bits.deBruijn64tab", laid_math_bits_deBruijn64tab), ("internal/strconv.uint64pow10", laid_internal_strconv_uint64pow10), ("strconv.ErrRange", laid_strconv_ErrRange), ("strconv.ErrSyntax", laid_strconv_ErrSyntax), ("edict/lex.signs", laid_edict_lex_signs)], narrowed := true }
def LexSpelledUptoSaid : Prop := lexSpelledUptoRow.holds Tryd.pinned (OpenSpec.upto lexSpelledSpec)

/-- 'edictlaw02.LexGaps', WHERE WHAT IT READS IS OF BULK AT MOST 1048576: true; the input reads as it did. -/
def lexGapsUptoRow : OpenClaim := { program := "ytbkpmdgeeolifaadoor", sum := "83338169e5b3c854acf09ef2c467192c776427767ef9ffe7d5d76ada812bdb86", func := "edict/edictlaw02.LexGaps", spec := "lexGaps", unfollowed := true, recurses := true, named := ["edict/lex.signs", "strconv.ErrSyntax", "strconv.ErrRange", "internal/strconv.uint64pow10", "math/bits.deBruijn32tab", "math/bits.deBruijn64tab"], apart := false, laid := [("math/bits.deBruijn32tab", laid_math_bits_deBruijn32tab), ("math/bits.deBruijn64tab", laid_math_bits_deBruijn64tab), ("internal/strconv.uint64pow10", laid_internal_strconv_uint64pow10), ("strconv.ErrRange", laid_strconv_ErrRange), ("strconv.ErrSyntax", laid_strconv_ErrSyntax), ("edict/lex.signs", laid_edict_lex_signs)], narrowed := true }
def LexGapsUptoSaid : Prop := lexGapsUptoRow.holds Tryd.pinned (OpenSpec.upto lexGapsSpec)

/-- 'edictlaw02.LexNothing', WHERE WHAT IT READS IS OF BULK AT MOST 1048576: true; the input reads as it did. -/
def lexNothingUptoRow : OpenClaim := { program := "ytbkpmdgeeolifaadoor", sum := "83338169e5b3c854acf09ef2c467192c776427767ef9ffe7d5d76ada812bdb86", func := "edict/edictlaw02.LexNothing", spec := "lexNothing", unfollowed := true, recurses := true, named := ["edict/lex.signs", "strconv.ErrSyntax", "strconv.ErrRange", "internal/strconv.uint64pow10", "math/bits.deBruijn32tab", "math/bits.deBruijn64tab"], apart := false, laid := [("math/bits.deBruijn32tab", laid_math_bits_deBruijn32tab), ("math/bits.deBruijn64tab", laid_math_bits_deBruijn64tab), ("internal/strconv.uint64pow10", laid_internal_strconv_uint64pow10), ("strconv.ErrRange", laid_strconv_ErrRange), ("strconv.ErrSyntax", laid_strconv_ErrSyntax), ("edict/lex.signs", laid_edict_lex_signs)], narrowed := true }
def LexNothingUptoSaid : Prop := lexNothingUptoRow.holds Tryd.pinned (OpenSpec.upto lexNothingSpec)

/-- 'edictlaw02.LexAll', WHERE WHAT IT READS IS OF BULK AT MOST 1048576: true; the input reads as it did. -/
def lexAllUptoRow : OpenClaim := { program := "ytbkpmdgeeolifaadoor", sum := "83338169e5b3c854acf09ef2c467192c776427767ef9ffe7d5d76ada812bdb86", func := "edict/edictlaw02.LexAll", spec := "lexAll", inPlace := ["internal/bytealg.CountString", "internal/bytealg.IndexByteString", "internal/bytealg.IndexString"], unfollowed := true, recurses := true, named := ["edict/lex.signs", "strconv.ErrSyntax", "strconv.ErrRange", "internal/strconv.uint64pow10", "math/bits.deBruijn32tab", "math/bits.deBruijn64tab", "internal/bytealg.MaxLen"], apart := false, laid := [("math/bits.deBruijn32tab", laid_math_bits_deBruijn32tab), ("math/bits.deBruijn64tab", laid_math_bits_deBruijn64tab), ("internal/strconv.uint64pow10", laid_internal_strconv_uint64pow10), ("strconv.ErrRange", laid_strconv_ErrRange), ("strconv.ErrSyntax", laid_strconv_ErrSyntax), ("edict/lex.signs", laid_edict_lex_signs)], narrowed := true }
def LexAllUptoSaid : Prop := lexAllUptoRow.holds Tryd.pinned (OpenSpec.upto lexAllSpec)

end Rows
end Go.Proofs.YtbkpmdgeeolifaaDoor
