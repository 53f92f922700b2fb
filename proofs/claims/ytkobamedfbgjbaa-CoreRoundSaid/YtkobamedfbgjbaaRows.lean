/-
  No cell of these rows narrows 'for every input' (looked for: loops, veiled, ifaces, maps, wideKeys, modest, calm, conditions, laid).
  DERIVED. THE GIVEN ROWS OF THIS SEAT. 4 by the template 'for every input the law returns true; each argument reads behind the call as it read before'; 0 by the template 'total and deterministic' (their statements: YtkobamedfbgjbaaTotals.lean).
  GIVEN WITH THE SEED: the statements are not yours to turn. If you find one false, say at which input.
  Laid BY PROGRAM, IN A SANDBOX (cutbox-rows.mjs): the forced cells as the released guide's own fill.sh prints them over the translation f575fee61d49810a… (all of the seat's roots in one cut). By AI agents, Wed Nov 11 2026. No macro, syntax, notation, axiom, sorry.
-/
import Derived.Test.YtkobamedfbgjbaaChecked
import GoSem.Claim
import GoSem.ClaimJoined
import GoSem.ClaimMapViews
import Derived.JoinedTies
import Derived.KernelRfl
namespace Go.Proofs.Ytkobamedfbgjbaa
/- THE CELL 'sum', in the pinned program and in every row, IS THE sha256 OF THE DUMP (.gsa) THAT YtkobamedfbgjbaaProg.lean LOADS. Nothing in Lean hashes anything: it is a label: what it is worth is what the hold of that sum in a sandbox is worth. -/
noncomputable def Try.pinned : Pinned := { name := "ytkobamedfbgjbaa", sum := "f575fee61d49810aa69a78155111075e4eef0f226473ed7d1f1161dccf4804f2", checked := Try.checked }
namespace Rows
def none {H : Type} : Left H := { results := [], args := [] }

/-- 'edictlaw07.CoreOrder': WHATEVER THE INPUT: true; the input reads as it did. -/
def coreOrderSpec : ChangeSpec := { name := "coreOrder", fn := fun _ => fun
  | [d1, d2] => { results := [.lit (.bool true)], args := [d1, d2] }
  | _ => none }
def coreOrderRow : OpenClaim := { program := "ytkobamedfbgjbaa", sum := "f575fee61d49810aa69a78155111075e4eef0f226473ed7d1f1161dccf4804f2", func := "edict/edictlaw07.CoreOrder", spec := "coreOrder", unfollowed := true, recurses := true, plainKeys := false, apart := false }
def CoreOrderSaid : Prop := coreOrderRow.holds Try.pinned (OpenSpec.ofChange coreOrderSpec)

/-- ITS FALSE NEIGHBOUR: 'it returns false'. Refute it at one input. -/
def coreOrderWrong : ChangeSpec := { name := "coreOrder", fn := fun _ => fun
  | [d1, d2] => { results := [.lit (.bool false)], args := [d1, d2] }
  | _ => none }
def CoreOrderWrongFalsely : Prop := coreOrderRow.holds Try.pinned (OpenSpec.ofChange coreOrderWrong)

/-- 'edictlaw07.CoreBinds': WHATEVER THE INPUT: true; the input reads as it did. -/
def coreBindsSpec : ChangeSpec := { name := "coreBinds", fn := fun _ => fun
  | [d1, d2] => { results := [.lit (.bool true)], args := [d1, d2] }
  | _ => none }
def coreBindsRow : OpenClaim := { program := "ytkobamedfbgjbaa", sum := "f575fee61d49810aa69a78155111075e4eef0f226473ed7d1f1161dccf4804f2", func := "edict/edictlaw07.CoreBinds", spec := "coreBinds", unfollowed := true, recurses := true, plainKeys := false, apart := false }
def CoreBindsSaid : Prop := coreBindsRow.holds Try.pinned (OpenSpec.ofChange coreBindsSpec)

/-- ITS FALSE NEIGHBOUR: 'it returns false'. Refute it at one input. -/
def coreBindsWrong : ChangeSpec := { name := "coreBinds", fn := fun _ => fun
  | [d1, d2] => { results := [.lit (.bool false)], args := [d1, d2] }
  | _ => none }
def CoreBindsWrongFalsely : Prop := coreBindsRow.holds Try.pinned (OpenSpec.ofChange coreBindsWrong)

/-- 'edictlaw07.CoreRefuses': WHATEVER THE INPUT: true; the input reads as it did. -/
def coreRefusesSpec : ChangeSpec := { name := "coreRefuses", fn := fun _ => fun
  | [d1, d2] => { results := [.lit (.bool true)], args := [d1, d2] }
  | _ => none }
def coreRefusesRow : OpenClaim := { program := "ytkobamedfbgjbaa", sum := "f575fee61d49810aa69a78155111075e4eef0f226473ed7d1f1161dccf4804f2", func := "edict/edictlaw07.CoreRefuses", spec := "coreRefuses", unfollowed := true, recurses := true, plainKeys := false, apart := false }
def CoreRefusesSaid : Prop := coreRefusesRow.holds Try.pinned (OpenSpec.ofChange coreRefusesSpec)

/-- ITS FALSE NEIGHBOUR: 'it returns false'. Refute it at one input. -/
def coreRefusesWrong : ChangeSpec := { name := "coreRefuses", fn := fun _ => fun
  | [d1, d2] => { results := [.lit (.bool false)], args := [d1, d2] }
  | _ => none }
def CoreRefusesWrongFalsely : Prop := coreRefusesRow.holds Try.pinned (OpenSpec.ofChange coreRefusesWrong)

/-- 'edictlaw07.CoreRound': WHATEVER THE INPUT: true; the input reads as it did. -/
def coreRoundSpec : ChangeSpec := { name := "coreRound", fn := fun _ => fun
  | [d1, d2] => { results := [.lit (.bool true)], args := [d1, d2] }
  | _ => none }
def coreRoundRow : OpenClaim := { program := "ytkobamedfbgjbaa", sum := "f575fee61d49810aa69a78155111075e4eef0f226473ed7d1f1161dccf4804f2", func := "edict/edictlaw07.CoreRound", spec := "coreRound", unfollowed := true, recurses := true, plainKeys := false, apart := false }
def CoreRoundSaid : Prop := coreRoundRow.holds Try.pinned (OpenSpec.ofChange coreRoundSpec)

/-- ITS FALSE NEIGHBOUR: 'it returns false'. Refute it at one input. -/
def coreRoundWrong : ChangeSpec := { name := "coreRound", fn := fun _ => fun
  | [d1, d2] => { results := [.lit (.bool false)], args := [d1, d2] }
  | _ => none }
def CoreRoundWrongFalsely : Prop := coreRoundRow.holds Try.pinned (OpenSpec.ofChange coreRoundWrong)

/- THE SECOND FORM. 'bulk': how many values and letters a reading holds, each counted each time it is reached (what is shared counts as often as it is met; a slice's spare places count too). A statement '..UptoSaid' is the law's where the arguments, and the package variables that the reading takes, are together of bulk at most 1048576: NARROWER than '..Said'. Prove '..Said' where nothing that the law and all that it calls make is longer than what came in: it says more and counts as full. Else prove '..UptoSaid'. A law counts once. -/
mutual
def uptoBulk {H : Type} : DataW H → Nat
  | .lit (.string bytes) => bytes.length + 1
  | .lit _ => 1
  | .nil => 1
  | .ptr d => uptoBulk d + 1
  | .slice elems spare => uptoBulkAll elems + uptoBulkAll spare + 1
  | .agg parts => uptoBulkAll parts + 1
  | .iface _ d => uptoBulk d + 1
  | .map entries => uptoBulkEntries entries + 1
  | .held _ => 1
def uptoBulkAll {H : Type} : List (DataW H) → Nat
  | [] => 0
  | d :: r => uptoBulk d + uptoBulkAll r
def uptoBulkEntries {H : Type} : List (Lit × DataW H) → Nat
  | [] => 0
  | x :: r => uptoBulkEntry x + uptoBulkEntries r
def uptoBulkEntry {H : Type} : Lit × DataW H → Nat
  | (.string bytes, d) => bytes.length + uptoBulk d + 1
  | (_, d) => uptoBulk d + 1
 end
def uptoSmall : (H : Type) → List (DataW H) → Bool := fun _ ds => decide (uptoBulkAll ds ≤ 1048576)
def OpenSpec.upto (s : _root_.Go.ChangeSpec) : _root_.Go.OpenSpec := { _root_.Go.OpenSpec.ofChange s with cond := some uptoSmall }

/-- 'edictlaw07.CoreOrder', WHERE WHAT IT READS IS OF BULK AT MOST 1048576: true; the input reads as it did. -/
def coreOrderUptoRow : OpenClaim := { program := "ytkobamedfbgjbaa", sum := "f575fee61d49810aa69a78155111075e4eef0f226473ed7d1f1161dccf4804f2", func := "edict/edictlaw07.CoreOrder", spec := "coreOrder", unfollowed := true, recurses := true, plainKeys := false, apart := false, narrowed := true }
def CoreOrderUptoSaid : Prop := coreOrderUptoRow.holds Try.pinned (OpenSpec.upto coreOrderSpec)

/-- 'edictlaw07.CoreBinds', WHERE WHAT IT READS IS OF BULK AT MOST 1048576: true; the input reads as it did. -/
def coreBindsUptoRow : OpenClaim := { program := "ytkobamedfbgjbaa", sum := "f575fee61d49810aa69a78155111075e4eef0f226473ed7d1f1161dccf4804f2", func := "edict/edictlaw07.CoreBinds", spec := "coreBinds", unfollowed := true, recurses := true, plainKeys := false, apart := false, narrowed := true }
def CoreBindsUptoSaid : Prop := coreBindsUptoRow.holds Try.pinned (OpenSpec.upto coreBindsSpec)

/-- 'edictlaw07.CoreRefuses', WHERE WHAT IT READS IS OF BULK AT MOST 1048576: true; the input reads as it did. -/
def coreRefusesUptoRow : OpenClaim := { program := "ytkobamedfbgjbaa", sum := "f575fee61d49810aa69a78155111075e4eef0f226473ed7d1f1161dccf4804f2", func := "edict/edictlaw07.CoreRefuses", spec := "coreRefuses", unfollowed := true, recurses := true, plainKeys := false, apart := false, narrowed := true }
def CoreRefusesUptoSaid : Prop := coreRefusesUptoRow.holds Try.pinned (OpenSpec.upto coreRefusesSpec)

/-- 'edictlaw07.CoreRound', WHERE WHAT IT READS IS OF BULK AT MOST 1048576: true; the input reads as it did. -/
def coreRoundUptoRow : OpenClaim := { program := "ytkobamedfbgjbaa", sum := "f575fee61d49810aa69a78155111075e4eef0f226473ed7d1f1161dccf4804f2", func := "edict/edictlaw07.CoreRound", spec := "coreRound", unfollowed := true, recurses := true, plainKeys := false, apart := false, narrowed := true }
def CoreRoundUptoSaid : Prop := coreRoundUptoRow.holds Try.pinned (OpenSpec.upto coreRoundSpec)

end Rows
end Go.Proofs.Ytkobamedfbgjbaa
