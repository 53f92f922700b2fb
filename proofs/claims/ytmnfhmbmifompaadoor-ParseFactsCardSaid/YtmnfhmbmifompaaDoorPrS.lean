/- The small statements of functions of the program, as the closed computation gives them (written by a program of ours; checked by the kernel below). -/
import Derived.Test.YtmnfhmbmifompaaDoorEvB
import Derived.Test.YtmnfhmbmifompaaDoorProg
import Derived.KernelRfl
import Derived.Test.YtmnfhmbmifompaaDoorPsS
namespace Go.Proofs.YtmnfhmbmifompaaDoor
open Go Go.Ev
def rpMoveHead_M : Nat → Bool := fun i => Nat.testBit 144186110871343155 i
def rpMoveHead_S : S :=
  (.seq (.sts [(.set 4 (.c (.int .i64 0)))]) (.seq (.block 0 (.seq (.sts [(.chk [] (.c2 (.bin .eql) (.t 0) (.c (.int .i64 0)))),
    (.chk [((.o2 (.bin .eql) (.t 0) (.c (.int .i64 0))), true)] (.c2 (.bin .eql) (.t 1) (.c (.int .i64 1)))),
    (.chk [] (.c3 .pick (.o2 (.bin .eql) (.t 0) (.c (.int .i64 0))) (.o2 (.bin .eql) (.t 1) (.c (.int .i64 1))) (.c (.bool false)))),
    (.set 5 (.o3 .pick (.o2 (.bin .eql) (.t 0) (.c (.int .i64 0))) (.o2 (.bin .eql) (.t 1) (.c (.int .i64 1))) (.c (.bool false))))]) (.cond 5 (.seq (.sts [(.set 4 (.c (.int .i64 1)))]) .ret) (.seq (.sts [(.chk [] (.c2 (.bin .eql) (.t 0) (.c (.int .i64 0)))),
    (.chk [((.o2 (.bin .eql) (.t 0) (.c (.int .i64 0))), true)] (.c2 (.bin .eql) (.t 1) (.c (.int .i64 0)))),
    (.chk [] (.c3 .pick (.o2 (.bin .eql) (.t 0) (.c (.int .i64 0))) (.o2 (.bin .eql) (.t 1) (.c (.int .i64 0))) (.c (.bool false)))),
    (.set 12 (.o3 .pick (.o2 (.bin .eql) (.t 0) (.c (.int .i64 0))) (.o2 (.bin .eql) (.t 1) (.c (.int .i64 0))) (.c (.bool false))))]) (.cond 12 (.seq (.sts [(.set 4 (.c (.int .i64 26)))]) .ret) (.seq (.seq (.sts [(.chk [] (.c2 (.bin .eql) (.t 0) (.c (.int .i64 1)))),
    (.chk [((.o2 (.bin .eql) (.t 0) (.c (.int .i64 1))), true)] (.c2 (.bin .eql) (.t 1) (.c (.int .i64 5)))),
    (.chk [] (.c3 .pick (.o2 (.bin .eql) (.t 0) (.c (.int .i64 1))) (.o2 (.bin .eql) (.t 1) (.c (.int .i64 5))) (.c (.bool false)))),
    (.set 19 (.o3 .pick (.o2 (.bin .eql) (.t 0) (.c (.int .i64 1))) (.o2 (.bin .eql) (.t 1) (.c (.int .i64 5))) (.c (.bool false))))]) (.cond 19 .skip (.sts [(.chk [] (.c2 (.bin .eql) (.t 0) (.c (.int .i64 3)))),
    (.chk [((.o2 (.bin .eql) (.t 0) (.c (.int .i64 3))), true)] (.c2 (.bin .eql) (.t 1) (.c (.int .i64 7)))),
    (.chk [] (.c3 .pick (.o2 (.bin .eql) (.t 0) (.c (.int .i64 3))) (.o2 (.bin .eql) (.t 1) (.c (.int .i64 7))) (.c (.bool false)))),
    (.set 19 (.o3 .pick (.o2 (.bin .eql) (.t 0) (.c (.int .i64 3))) (.o2 (.bin .eql) (.t 1) (.c (.int .i64 7))) (.c (.bool false))))]))) (.cond 19 (.seq (.sts [(.set 4 (.c (.int .i64 2)))]) .ret) (.seq (.sts [(.chk [] (.c2 (.bin .eql) (.t 0) (.c (.int .i64 2)))),
    (.eff [((.o2 (.bin .eql) (.t 0) (.c (.int .i64 2))), true)] (some 37) (.call 90) [(.t 1)] []),
    (.chk [] (.c3 .pick (.o2 (.bin .eql) (.t 0) (.c (.int .i64 2))) (.t 37) (.c (.bool false)))),
    (.set 32 (.o3 .pick (.o2 (.bin .eql) (.t 0) (.c (.int .i64 2))) (.t 37) (.c (.bool false))))]) (.cond 32 (.seq (.sts [(.set 4 (.c (.int .i64 3)))]) .ret) (.seq (.sts [(.chk [] (.c2 (.bin .eql) (.t 0) (.c (.int .i64 3)))),
    (.chk [((.o2 (.bin .eql) (.t 0) (.c (.int .i64 3))), true)] (.c2 (.bin .eql) (.t 1) (.c (.int .i64 6)))),
    (.chk [] (.c3 .pick (.o2 (.bin .eql) (.t 0) (.c (.int .i64 3))) (.o2 (.bin .eql) (.t 1) (.c (.int .i64 6))) (.c (.bool false)))),
    (.set 39 (.o3 .pick (.o2 (.bin .eql) (.t 0) (.c (.int .i64 3))) (.o2 (.bin .eql) (.t 1) (.c (.int .i64 6))) (.c (.bool false))))]) (.cond 39 (.seq (.sts [(.set 4 (.c (.int .i64 4)))]) .ret) (.seq (.sts [(.chk [] (.c2 (.bin .eql) (.t 0) (.c (.int .i64 1)))),
    (.chk [((.o2 (.bin .eql) (.t 0) (.c (.int .i64 1))), false)] (.c2 (.bin .eql) (.t 0) (.c (.int .i64 4)))),
    (.chk [] (.c3 .pick (.o2 (.bin .eql) (.t 0) (.c (.int .i64 1))) (.c (.bool true)) (.o2 (.bin .eql) (.t 0) (.c (.int .i64 4))))),
    (.chk [((.o3 .pick (.o2 (.bin .eql) (.t 0) (.c (.int .i64 1))) (.c (.bool true)) (.o2 (.bin .eql) (.t 0) (.c (.int .i64 4)))), true)] (.c2 (.bin .eql) (.t 1) (.c (.int .i64 8)))),
    (.chk [] (.c3 .pick (.o3 .pick (.o2 (.bin .eql) (.t 0) (.c (.int .i64 1))) (.c (.bool true)) (.o2 (.bin .eql) (.t 0) (.c (.int .i64 4)))) (.o2 (.bin .eql) (.t 1) (.c (.int .i64 8))) (.c (.bool false)))),
    (.set 46 (.o3 .pick (.o3 .pick (.o2 (.bin .eql) (.t 0) (.c (.int .i64 1))) (.c (.bool true)) (.o2 (.bin .eql) (.t 0) (.c (.int .i64 4)))) (.o2 (.bin .eql) (.t 1) (.c (.int .i64 8))) (.c (.bool false))))]) (.cond 46 (.seq (.sts [(.set 4 (.c (.int .i64 0)))]) .ret) (.seq (.sts [(.chk [] (.c2 (.bin .eql) (.t 0) (.c (.int .i64 1)))),
    (.chk [((.o2 (.bin .eql) (.t 0) (.c (.int .i64 1))), false)] (.c2 (.bin .eql) (.t 0) (.c (.int .i64 4)))),
    (.chk [] (.c3 .pick (.o2 (.bin .eql) (.t 0) (.c (.int .i64 1))) (.c (.bool true)) (.o2 (.bin .eql) (.t 0) (.c (.int .i64 4))))),
    (.chk [((.o3 .pick (.o2 (.bin .eql) (.t 0) (.c (.int .i64 1))) (.c (.bool true)) (.o2 (.bin .eql) (.t 0) (.c (.int .i64 4)))), true)] (.c2 (.bin .eql) (.t 1) (.c (.int .i64 9)))),
    (.chk [] (.c3 .pick (.o3 .pick (.o2 (.bin .eql) (.t 0) (.c (.int .i64 1))) (.c (.bool true)) (.o2 (.bin .eql) (.t 0) (.c (.int .i64 4)))) (.o2 (.bin .eql) (.t 1) (.c (.int .i64 9))) (.c (.bool false)))),
    (.set 57 (.o3 .pick (.o3 .pick (.o2 (.bin .eql) (.t 0) (.c (.int .i64 1))) (.c (.bool true)) (.o2 (.bin .eql) (.t 0) (.c (.int .i64 4)))) (.o2 (.bin .eql) (.t 1) (.c (.int .i64 9))) (.c (.bool false))))]) (.cond 57 (.seq (.sts [(.set 4 (.c (.int .i64 5)))]) .ret) .skip))))))))))))))) (.seq (.sts [(.set 4 (.c (.int .i64 (-1))))]) .ret)))
def rpMoveHead_E : Res := [(none, (.t 4))]
theorem rpMoveHead_C : Tryd.f106.body.bind (comp Tryd.prog rpMoveHead_M Tryd.f106.ntmps) = some rpMoveHead_S := by kernel_rfl
theorem rpMoveHead_R : resE Tryd.prog rpMoveHead_M Tryd.f106.results.toList = some rpMoveHead_E := by kernel_rfl
theorem rpMoveHead_H (G : Ctr) (hG : GOk Tryd.prog G) (a0 : Value) (a1 : Value) {h : H} {K : Value → H → Prop} {KP : List PanicEntry → H → Prop} (Hw : wpS G rpMoveHead_S (retQ rpMoveHead_E (callK K KP)) (envOf 0 [a0, a1] env0) h) : HCX Tryd.prog 106 [a0, a1] h K KP :=
  .inl ⟨by kernel_rfl, hc_of mixed hG Tryd.func106 rpMoveHead_C rpMoveHead_R (of_decide_eq_true (by kernel_rfl)) Hw⟩
def rpMoveFact_M : Nat → Bool := fun i => Nat.testBit 2477098523491282114855833651 i
def rpMoveFact_S : S :=
  (.seq (.sts [(.set 4 (.c (.int .i64 0)))]) (.seq (.block 0 (.seq (.sts [(.chk [] (.c2 (.bin .eql) (.t 0) (.c (.int .i64 15)))),
    (.chk [((.o2 (.bin .eql) (.t 0) (.c (.int .i64 15))), true)] (.c2 (.bin .eql) (.t 1) (.c (.int .i64 1)))),
    (.chk [] (.c3 .pick (.o2 (.bin .eql) (.t 0) (.c (.int .i64 15))) (.o2 (.bin .eql) (.t 1) (.c (.int .i64 1))) (.c (.bool false)))),
    (.set 5 (.o3 .pick (.o2 (.bin .eql) (.t 0) (.c (.int .i64 15))) (.o2 (.bin .eql) (.t 1) (.c (.int .i64 1))) (.c (.bool false))))]) (.cond 5 (.seq (.sts [(.set 4 (.c (.int .i64 16)))]) .ret) (.seq (.sts [(.chk [] (.c2 (.bin .eql) (.t 0) (.c (.int .i64 15)))),
    (.chk [((.o2 (.bin .eql) (.t 0) (.c (.int .i64 15))), true)] (.c2 (.bin .eql) (.t 1) (.c (.int .i64 0)))),
    (.chk [] (.c3 .pick (.o2 (.bin .eql) (.t 0) (.c (.int .i64 15))) (.o2 (.bin .eql) (.t 1) (.c (.int .i64 0))) (.c (.bool false)))),
    (.set 12 (.o3 .pick (.o2 (.bin .eql) (.t 0) (.c (.int .i64 15))) (.o2 (.bin .eql) (.t 1) (.c (.int .i64 0))) (.c (.bool false))))]) (.cond 12 (.seq (.sts [(.set 4 (.c (.int .i64 26)))]) .ret) (.seq (.sts [(.chk [] (.c2 (.bin .eql) (.t 0) (.c (.int .i64 20)))),
    (.chk [((.o2 (.bin .eql) (.t 0) (.c (.int .i64 20))), true)] (.c2 (.bin .eql) (.t 1) (.c (.int .i64 1)))),
    (.chk [] (.c3 .pick (.o2 (.bin .eql) (.t 0) (.c (.int .i64 20))) (.o2 (.bin .eql) (.t 1) (.c (.int .i64 1))) (.c (.bool false)))),
    (.set 19 (.o3 .pick (.o2 (.bin .eql) (.t 0) (.c (.int .i64 20))) (.o2 (.bin .eql) (.t 1) (.c (.int .i64 1))) (.c (.bool false))))]) (.cond 19 (.seq (.sts [(.set 4 (.c (.int .i64 21)))]) .ret) (.seq (.seq (.sts [(.chk [] (.c2 (.bin .eql) (.t 0) (.c (.int .i64 16)))),
    (.chk [((.o2 (.bin .eql) (.t 0) (.c (.int .i64 16))), true)] (.c2 (.bin .eql) (.t 1) (.c (.int .i64 5)))),
    (.chk [] (.c3 .pick (.o2 (.bin .eql) (.t 0) (.c (.int .i64 16))) (.o2 (.bin .eql) (.t 1) (.c (.int .i64 5))) (.c (.bool false)))),
    (.set 26 (.o3 .pick (.o2 (.bin .eql) (.t 0) (.c (.int .i64 16))) (.o2 (.bin .eql) (.t 1) (.c (.int .i64 5))) (.c (.bool false))))]) (.cond 26 .skip (.sts [(.chk [] (.c2 (.bin .eql) (.t 0) (.c (.int .i64 18)))),
    (.chk [((.o2 (.bin .eql) (.t 0) (.c (.int .i64 18))), true)] (.c2 (.bin .eql) (.t 1) (.c (.int .i64 7)))),
    (.chk [] (.c3 .pick (.o2 (.bin .eql) (.t 0) (.c (.int .i64 18))) (.o2 (.bin .eql) (.t 1) (.c (.int .i64 7))) (.c (.bool false)))),
    (.set 26 (.o3 .pick (.o2 (.bin .eql) (.t 0) (.c (.int .i64 18))) (.o2 (.bin .eql) (.t 1) (.c (.int .i64 7))) (.c (.bool false))))]))) (.cond 26 (.seq (.sts [(.set 4 (.c (.int .i64 17)))]) .ret) (.seq (.seq (.sts [(.chk [] (.c2 (.bin .eql) (.t 0) (.c (.int .i64 21)))),
    (.chk [((.o2 (.bin .eql) (.t 0) (.c (.int .i64 21))), true)] (.c2 (.bin .eql) (.t 1) (.c (.int .i64 5)))),
    (.chk [] (.c3 .pick (.o2 (.bin .eql) (.t 0) (.c (.int .i64 21))) (.o2 (.bin .eql) (.t 1) (.c (.int .i64 5))) (.c (.bool false)))),
    (.set 39 (.o3 .pick (.o2 (.bin .eql) (.t 0) (.c (.int .i64 21))) (.o2 (.bin .eql) (.t 1) (.c (.int .i64 5))) (.c (.bool false))))]) (.cond 39 .skip (.sts [(.chk [] (.c2 (.bin .eql) (.t 0) (.c (.int .i64 23)))),
    (.chk [((.o2 (.bin .eql) (.t 0) (.c (.int .i64 23))), true)] (.c2 (.bin .eql) (.t 1) (.c (.int .i64 7)))),
    (.chk [] (.c3 .pick (.o2 (.bin .eql) (.t 0) (.c (.int .i64 23))) (.o2 (.bin .eql) (.t 1) (.c (.int .i64 7))) (.c (.bool false)))),
    (.set 39 (.o3 .pick (.o2 (.bin .eql) (.t 0) (.c (.int .i64 23))) (.o2 (.bin .eql) (.t 1) (.c (.int .i64 7))) (.c (.bool false))))]))) (.cond 39 (.seq (.sts [(.set 4 (.c (.int .i64 22)))]) .ret) (.seq (.sts [(.chk [] (.c2 (.bin .eql) (.t 0) (.c (.int .i64 17)))),
    (.eff [((.o2 (.bin .eql) (.t 0) (.c (.int .i64 17))), true)] (some 57) (.call 130) [(.t 1)] []),
    (.chk [] (.c3 .pick (.o2 (.bin .eql) (.t 0) (.c (.int .i64 17))) (.t 57) (.c (.bool false)))),
    (.set 52 (.o3 .pick (.o2 (.bin .eql) (.t 0) (.c (.int .i64 17))) (.t 57) (.c (.bool false))))]) (.cond 52 (.seq (.sts [(.set 4 (.c (.int .i64 18)))]) .ret) (.seq (.sts [(.chk [] (.c2 (.bin .eql) (.t 0) (.c (.int .i64 22)))),
    (.eff [((.o2 (.bin .eql) (.t 0) (.c (.int .i64 22))), true)] (some 64) (.call 130) [(.t 1)] []),
    (.chk [] (.c3 .pick (.o2 (.bin .eql) (.t 0) (.c (.int .i64 22))) (.t 64) (.c (.bool false)))),
    (.set 59 (.o3 .pick (.o2 (.bin .eql) (.t 0) (.c (.int .i64 22))) (.t 64) (.c (.bool false))))]) (.cond 59 (.seq (.sts [(.set 4 (.c (.int .i64 23)))]) .ret) (.seq (.sts [(.chk [] (.c2 (.bin .eql) (.t 0) (.c (.int .i64 18)))),
    (.chk [((.o2 (.bin .eql) (.t 0) (.c (.int .i64 18))), true)] (.c2 (.bin .eql) (.t 1) (.c (.int .i64 6)))),
    (.chk [] (.c3 .pick (.o2 (.bin .eql) (.t 0) (.c (.int .i64 18))) (.o2 (.bin .eql) (.t 1) (.c (.int .i64 6))) (.c (.bool false)))),
    (.set 66 (.o3 .pick (.o2 (.bin .eql) (.t 0) (.c (.int .i64 18))) (.o2 (.bin .eql) (.t 1) (.c (.int .i64 6))) (.c (.bool false))))]) (.cond 66 (.seq (.sts [(.set 4 (.c (.int .i64 19)))]) .ret) (.seq (.sts [(.chk [] (.c2 (.bin .eql) (.t 0) (.c (.int .i64 23)))),
    (.chk [((.o2 (.bin .eql) (.t 0) (.c (.int .i64 23))), true)] (.c2 (.bin .eql) (.t 1) (.c (.int .i64 6)))),
    (.chk [] (.c3 .pick (.o2 (.bin .eql) (.t 0) (.c (.int .i64 23))) (.o2 (.bin .eql) (.t 1) (.c (.int .i64 6))) (.c (.bool false)))),
    (.set 73 (.o3 .pick (.o2 (.bin .eql) (.t 0) (.c (.int .i64 23))) (.o2 (.bin .eql) (.t 1) (.c (.int .i64 6))) (.c (.bool false))))]) (.cond 73 (.seq (.sts [(.set 4 (.c (.int .i64 24)))]) .ret) (.seq (.sts [(.chk [] (.c2 (.bin .eql) (.t 0) (.c (.int .i64 16)))),
    (.chk [((.o2 (.bin .eql) (.t 0) (.c (.int .i64 16))), false)] (.c2 (.bin .eql) (.t 0) (.c (.int .i64 19)))),
    (.chk [] (.c3 .pick (.o2 (.bin .eql) (.t 0) (.c (.int .i64 16))) (.c (.bool true)) (.o2 (.bin .eql) (.t 0) (.c (.int .i64 19))))),
    (.chk [((.o3 .pick (.o2 (.bin .eql) (.t 0) (.c (.int .i64 16))) (.c (.bool true)) (.o2 (.bin .eql) (.t 0) (.c (.int .i64 19)))), true)] (.c2 (.bin .eql) (.t 1) (.c (.int .i64 8)))),
    (.chk [] (.c3 .pick (.o3 .pick (.o2 (.bin .eql) (.t 0) (.c (.int .i64 16))) (.c (.bool true)) (.o2 (.bin .eql) (.t 0) (.c (.int .i64 19)))) (.o2 (.bin .eql) (.t 1) (.c (.int .i64 8))) (.c (.bool false)))),
    (.set 80 (.o3 .pick (.o3 .pick (.o2 (.bin .eql) (.t 0) (.c (.int .i64 16))) (.c (.bool true)) (.o2 (.bin .eql) (.t 0) (.c (.int .i64 19)))) (.o2 (.bin .eql) (.t 1) (.c (.int .i64 8))) (.c (.bool false))))]) (.cond 80 (.seq (.sts [(.set 4 (.c (.int .i64 15)))]) .ret) (.seq (.sts [(.chk [] (.c2 (.bin .eql) (.t 0) (.c (.int .i64 21)))),
    (.chk [((.o2 (.bin .eql) (.t 0) (.c (.int .i64 21))), false)] (.c2 (.bin .eql) (.t 0) (.c (.int .i64 24)))),
    (.chk [] (.c3 .pick (.o2 (.bin .eql) (.t 0) (.c (.int .i64 21))) (.c (.bool true)) (.o2 (.bin .eql) (.t 0) (.c (.int .i64 24))))),
    (.chk [((.o3 .pick (.o2 (.bin .eql) (.t 0) (.c (.int .i64 21))) (.c (.bool true)) (.o2 (.bin .eql) (.t 0) (.c (.int .i64 24)))), true)] (.c2 (.bin .eql) (.t 1) (.c (.int .i64 0)))),
    (.chk [] (.c3 .pick (.o3 .pick (.o2 (.bin .eql) (.t 0) (.c (.int .i64 21))) (.c (.bool true)) (.o2 (.bin .eql) (.t 0) (.c (.int .i64 24)))) (.o2 (.bin .eql) (.t 1) (.c (.int .i64 0))) (.c (.bool false)))),
    (.set 91 (.o3 .pick (.o3 .pick (.o2 (.bin .eql) (.t 0) (.c (.int .i64 21))) (.c (.bool true)) (.o2 (.bin .eql) (.t 0) (.c (.int .i64 24)))) (.o2 (.bin .eql) (.t 1) (.c (.int .i64 0))) (.c (.bool false))))]) (.cond 91 (.seq (.sts [(.set 4 (.c (.int .i64 26)))]) .ret) .skip))))))))))))))))))))))) (.seq (.sts [(.set 4 (.c (.int .i64 (-1))))]) .ret)))
def rpMoveFact_E : Res := [(none, (.t 4))]
theorem rpMoveFact_C : Tryd.f107.body.bind (comp Tryd.prog rpMoveFact_M Tryd.f107.ntmps) = some rpMoveFact_S := by kernel_rfl
theorem rpMoveFact_R : resE Tryd.prog rpMoveFact_M Tryd.f107.results.toList = some rpMoveFact_E := by kernel_rfl
theorem rpMoveFact_H (G : Ctr) (hG : GOk Tryd.prog G) (a0 : Value) (a1 : Value) {h : H} {K : Value → H → Prop} {KP : List PanicEntry → H → Prop} (Hw : wpS G rpMoveFact_S (retQ rpMoveFact_E (callK K KP)) (envOf 0 [a0, a1] env0) h) : HCX Tryd.prog 107 [a0, a1] h K KP :=
  .inl ⟨by kernel_rfl, hc_of mixed hG Tryd.func107 rpMoveFact_C rpMoveFact_R (of_decide_eq_true (by kernel_rfl)) Hw⟩
def rpMoveBody_M : Nat → Bool := fun i => Nat.testBit 26620682099911473780999246069959 i
def rpMoveBody_S : S :=
  (.seq (.sts [(.set 6 (.c (.int .i64 0)))]) (.seq (.block 0 (.seq (.sts [(.chk [] (.c2 (.bin .eql) (.t 0) (.c (.int .i64 5)))),
    (.chk [((.o2 (.bin .eql) (.t 0) (.c (.int .i64 5))), true)] (.c2 (.bin .eql) (.t 1) (.c (.int .i64 1)))),
    (.chk [] (.c3 .pick (.o2 (.bin .eql) (.t 0) (.c (.int .i64 5))) (.o2 (.bin .eql) (.t 1) (.c (.int .i64 1))) (.c (.bool false)))),
    (.set 7 (.o3 .pick (.o2 (.bin .eql) (.t 0) (.c (.int .i64 5))) (.o2 (.bin .eql) (.t 1) (.c (.int .i64 1))) (.c (.bool false))))]) (.cond 7 (.seq (.sts [(.set 6 (.c (.int .i64 6)))]) .ret) (.seq (.sts [(.chk [] (.c2 (.bin .eql) (.t 0) (.c (.int .i64 5)))),
    (.chk [((.o2 (.bin .eql) (.t 0) (.c (.int .i64 5))), true)] (.c2 (.bin .eql) (.t 1) (.c (.int .i64 10)))),
    (.chk [] (.c3 .pick (.o2 (.bin .eql) (.t 0) (.c (.int .i64 5))) (.o2 (.bin .eql) (.t 1) (.c (.int .i64 10))) (.c (.bool false)))),
    (.set 14 (.o3 .pick (.o2 (.bin .eql) (.t 0) (.c (.int .i64 5))) (.o2 (.bin .eql) (.t 1) (.c (.int .i64 10))) (.c (.bool false))))]) (.cond 14 (.seq (.sts [(.set 6 (.c (.int .i64 7)))]) .ret) (.seq (.sts [(.chk [] (.c2 (.bin .eql) (.t 0) (.c (.int .i64 5)))),
    (.eff [((.o2 (.bin .eql) (.t 0) (.c (.int .i64 5))), true)] (some 26) (.call 90) [(.t 1)] []),
    (.chk [] (.c3 .pick (.o2 (.bin .eql) (.t 0) (.c (.int .i64 5))) (.t 26) (.c (.bool false)))),
    (.set 21 (.o3 .pick (.o2 (.bin .eql) (.t 0) (.c (.int .i64 5))) (.t 26) (.c (.bool false))))]) (.cond 21 (.seq (.sts [(.set 6 (.c (.int .i64 8)))]) .ret) (.seq (.sts [(.chk [] (.c2 (.bin .eql) (.t 0) (.c (.int .i64 6)))),
    (.chk [((.o2 (.bin .eql) (.t 0) (.c (.int .i64 6))), false)] (.c2 (.bin .eql) (.t 0) (.c (.int .i64 8)))),
    (.chk [] (.c3 .pick (.o2 (.bin .eql) (.t 0) (.c (.int .i64 6))) (.c (.bool true)) (.o2 (.bin .eql) (.t 0) (.c (.int .i64 8))))),
    (.chk [((.o3 .pick (.o2 (.bin .eql) (.t 0) (.c (.int .i64 6))) (.c (.bool true)) (.o2 (.bin .eql) (.t 0) (.c (.int .i64 8)))), true)] (.c2 (.bin .eql) (.t 1) (.c (.int .i64 11)))),
    (.chk [] (.c3 .pick (.o3 .pick (.o2 (.bin .eql) (.t 0) (.c (.int .i64 6))) (.c (.bool true)) (.o2 (.bin .eql) (.t 0) (.c (.int .i64 8)))) (.o2 (.bin .eql) (.t 1) (.c (.int .i64 11))) (.c (.bool false)))),
    (.set 28 (.o3 .pick (.o3 .pick (.o2 (.bin .eql) (.t 0) (.c (.int .i64 6))) (.c (.bool true)) (.o2 (.bin .eql) (.t 0) (.c (.int .i64 8)))) (.o2 (.bin .eql) (.t 1) (.c (.int .i64 11))) (.c (.bool false))))]) (.cond 28 (.seq (.sts [(.set 6 (.c (.int .i64 11)))]) .ret) (.seq (.sts [(.chk [] (.c2 (.bin .eql) (.t 0) (.c (.int .i64 7)))),
    (.chk [((.o2 (.bin .eql) (.t 0) (.c (.int .i64 7))), true)] (.c2 (.bin .eql) (.t 1) (.c (.int .i64 1)))),
    (.chk [] (.c3 .pick (.o2 (.bin .eql) (.t 0) (.c (.int .i64 7))) (.o2 (.bin .eql) (.t 1) (.c (.int .i64 1))) (.c (.bool false)))),
    (.set 39 (.o3 .pick (.o2 (.bin .eql) (.t 0) (.c (.int .i64 7))) (.o2 (.bin .eql) (.t 1) (.c (.int .i64 1))) (.c (.bool false))))]) (.cond 39 (.seq (.sts [(.set 6 (.c (.int .i64 12)))]) .ret) (.seq (.seq (.sts [(.chk [] (.c2 (.bin .eql) (.t 0) (.c (.int .i64 6)))),
    (.chk [((.o2 (.bin .eql) (.t 0) (.c (.int .i64 6))), false)] (.c2 (.bin .eql) (.t 0) (.c (.int .i64 12)))),
    (.chk [] (.c3 .pick (.o2 (.bin .eql) (.t 0) (.c (.int .i64 6))) (.c (.bool true)) (.o2 (.bin .eql) (.t 0) (.c (.int .i64 12))))),
    (.chk [((.o3 .pick (.o2 (.bin .eql) (.t 0) (.c (.int .i64 6))) (.c (.bool true)) (.o2 (.bin .eql) (.t 0) (.c (.int .i64 12)))), true)] (.c2 (.bin .eql) (.t 1) (.c (.int .i64 5)))),
    (.chk [] (.c3 .pick (.o3 .pick (.o2 (.bin .eql) (.t 0) (.c (.int .i64 6))) (.c (.bool true)) (.o2 (.bin .eql) (.t 0) (.c (.int .i64 12)))) (.o2 (.bin .eql) (.t 1) (.c (.int .i64 5))) (.c (.bool false)))),
    (.set 46 (.o3 .pick (.o3 .pick (.o2 (.bin .eql) (.t 0) (.c (.int .i64 6))) (.c (.bool true)) (.o2 (.bin .eql) (.t 0) (.c (.int .i64 12)))) (.o2 (.bin .eql) (.t 1) (.c (.int .i64 5))) (.c (.bool false))))]) (.cond 46 .skip (.sts [(.chk [] (.c2 (.bin .eql) (.t 0) (.c (.int .i64 10)))),
    (.chk [((.o2 (.bin .eql) (.t 0) (.c (.int .i64 10))), true)] (.c2 (.bin .eql) (.t 1) (.c (.int .i64 7)))),
    (.chk [] (.c3 .pick (.o2 (.bin .eql) (.t 0) (.c (.int .i64 10))) (.o2 (.bin .eql) (.t 1) (.c (.int .i64 7))) (.c (.bool false)))),
    (.set 46 (.o3 .pick (.o2 (.bin .eql) (.t 0) (.c (.int .i64 10))) (.o2 (.bin .eql) (.t 1) (.c (.int .i64 7))) (.c (.bool false))))]))) (.cond 46 (.seq (.sts [(.set 6 (.c (.int .i64 9)))]) .ret) (.seq (.sts [(.chk [] (.c2 (.bin .eql) (.t 0) (.c (.int .i64 9)))),
    (.eff [((.o2 (.bin .eql) (.t 0) (.c (.int .i64 9))), true)] (some 68) (.call 90) [(.t 1)] []),
    (.chk [] (.c3 .pick (.o2 (.bin .eql) (.t 0) (.c (.int .i64 9))) (.t 68) (.c (.bool false)))),
    (.set 63 (.o3 .pick (.o2 (.bin .eql) (.t 0) (.c (.int .i64 9))) (.t 68) (.c (.bool false))))]) (.cond 63 (.seq (.sts [(.set 6 (.c (.int .i64 10)))]) .ret) (.seq (.sts [(.chk [] (.c2 (.bin .eql) (.t 0) (.c (.int .i64 10)))),
    (.chk [((.o2 (.bin .eql) (.t 0) (.c (.int .i64 10))), true)] (.c2 (.bin .eql) (.t 1) (.c (.int .i64 6)))),
    (.chk [] (.c3 .pick (.o2 (.bin .eql) (.t 0) (.c (.int .i64 10))) (.o2 (.bin .eql) (.t 1) (.c (.int .i64 6))) (.c (.bool false)))),
    (.set 70 (.o3 .pick (.o2 (.bin .eql) (.t 0) (.c (.int .i64 10))) (.o2 (.bin .eql) (.t 1) (.c (.int .i64 6))) (.c (.bool false))))]) (.cond 70 (.seq (.sts [(.set 6 (.c (.int .i64 13)))]) .ret) (.seq (.sts [(.chk [] (.c2 (.bin .eql) (.t 0) (.c (.int .i64 11)))),
    (.eff [((.o2 (.bin .eql) (.t 0) (.c (.int .i64 11))), true)] (some 82) (.call 90) [(.t 1)] []),
    (.chk [] (.c3 .pick (.o2 (.bin .eql) (.t 0) (.c (.int .i64 11))) (.t 82) (.c (.bool false)))),
    (.set 77 (.o3 .pick (.o2 (.bin .eql) (.t 0) (.c (.int .i64 11))) (.t 82) (.c (.bool false))))]) (.cond 77 (.seq (.sts [(.set 6 (.c (.int .i64 14)))]) .ret) (.seq (.sts [(.chk [] (.c2 (.bin .eql) (.t 0) (.c (.int .i64 6)))),
    (.chk [((.o2 (.bin .eql) (.t 0) (.c (.int .i64 6))), false)] (.c2 (.bin .eql) (.t 0) (.c (.int .i64 12)))),
    (.chk [] (.c3 .pick (.o2 (.bin .eql) (.t 0) (.c (.int .i64 6))) (.c (.bool true)) (.o2 (.bin .eql) (.t 0) (.c (.int .i64 12))))),
    (.chk [((.o3 .pick (.o2 (.bin .eql) (.t 0) (.c (.int .i64 6))) (.c (.bool true)) (.o2 (.bin .eql) (.t 0) (.c (.int .i64 12)))), false)] (.c2 (.bin .eql) (.t 0) (.c (.int .i64 13)))),
    (.chk [] (.c3 .pick (.o3 .pick (.o2 (.bin .eql) (.t 0) (.c (.int .i64 6))) (.c (.bool true)) (.o2 (.bin .eql) (.t 0) (.c (.int .i64 12)))) (.c (.bool true)) (.o2 (.bin .eql) (.t 0) (.c (.int .i64 13))))),
    (.chk [((.o3 .pick (.o3 .pick (.o2 (.bin .eql) (.t 0) (.c (.int .i64 6))) (.c (.bool true)) (.o2 (.bin .eql) (.t 0) (.c (.int .i64 12)))) (.c (.bool true)) (.o2 (.bin .eql) (.t 0) (.c (.int .i64 13)))), false)] (.c2 (.bin .eql) (.t 0) (.c (.int .i64 14)))),
    (.chk [] (.c3 .pick (.o3 .pick (.o3 .pick (.o2 (.bin .eql) (.t 0) (.c (.int .i64 6))) (.c (.bool true)) (.o2 (.bin .eql) (.t 0) (.c (.int .i64 12)))) (.c (.bool true)) (.o2 (.bin .eql) (.t 0) (.c (.int .i64 13)))) (.c (.bool true)) (.o2 (.bin .eql) (.t 0) (.c (.int .i64 14))))),
    (.set 84 (.o3 .pick (.o3 .pick (.o3 .pick (.o2 (.bin .eql) (.t 0) (.c (.int .i64 6))) (.c (.bool true)) (.o2 (.bin .eql) (.t 0) (.c (.int .i64 12)))) (.c (.bool true)) (.o2 (.bin .eql) (.t 0) (.c (.int .i64 13)))) (.c (.bool true)) (.o2 (.bin .eql) (.t 0) (.c (.int .i64 14)))))]) (.cond 84 (.seq (.seq (.sts [(.chk [] (.c2 (.bin .eql) (.t 1) (.c (.int .i64 7)))),
    (.set 100 (.o2 (.bin .eql) (.t 1) (.c (.int .i64 7))))]) (.cond 100 (.seq (.sts [(.set 6 (.c (.int .i64 5)))]) .ret) .skip)) (.seq (.sts [(.chk [] (.c2 (.bin .eql) (.t 1) (.c (.int .i64 8)))),
    (.set 102 (.o2 (.bin .eql) (.t 1) (.c (.int .i64 8))))]) (.cond 102 (.seq (.sts [(.set 6 (.t 2))]) .ret) .skip))) (.seq (.sts [(.chk [] (.c2 (.bin .eql) (.t 0) (.c (.int .i64 25)))),
    (.chk [((.o2 (.bin .eql) (.t 0) (.c (.int .i64 25))), true)] (.c2 (.bin .eql) (.t 1) (.c (.int .i64 0)))),
    (.chk [] (.c3 .pick (.o2 (.bin .eql) (.t 0) (.c (.int .i64 25))) (.o2 (.bin .eql) (.t 1) (.c (.int .i64 0))) (.c (.bool false)))),
    (.set 104 (.o3 .pick (.o2 (.bin .eql) (.t 0) (.c (.int .i64 25))) (.o2 (.bin .eql) (.t 1) (.c (.int .i64 0))) (.c (.bool false))))]) (.cond 104 (.seq (.sts [(.set 6 (.c (.int .i64 26)))]) .ret) .skip))))))))))))))))))))))) (.seq (.sts [(.set 6 (.c (.int .i64 (-1))))]) .ret)))
def rpMoveBody_E : Res := [(none, (.t 6))]
theorem rpMoveBody_C : Tryd.f108.body.bind (comp Tryd.prog rpMoveBody_M Tryd.f108.ntmps) = some rpMoveBody_S := by kernel_rfl
theorem rpMoveBody_R : resE Tryd.prog rpMoveBody_M Tryd.f108.results.toList = some rpMoveBody_E := by kernel_rfl
theorem rpMoveBody_H (G : Ctr) (hG : GOk Tryd.prog G) (a0 : Value) (a1 : Value) (a2 : Value) {h : H} {K : Value → H → Prop} {KP : List PanicEntry → H → Prop} (Hw : wpS G rpMoveBody_S (retQ rpMoveBody_E (callK K KP)) (envOf 0 [a0, a1, a2] env0) h) : HCX Tryd.prog 108 [a0, a1, a2] h K KP :=
  .inl ⟨by kernel_rfl, hc_of mixed hG Tryd.func108 rpMoveBody_C rpMoveBody_R (of_decide_eq_true (by kernel_rfl)) Hw⟩
def rpMove_M : Nat → Bool := fun i => Nat.testBit 8651463 i
def rpMove_S : S :=
  (.seq (.sts [(.set 6 (.c (.int .i64 0)))]) (.seq (.seq (.sts [(.chk [] (.c2 (.bin .leq) (.t 1) (.c (.int .i64 4)))),
    (.set 9 (.o2 (.bin .leq) (.t 1) (.c (.int .i64 4))))]) (.cond 9 (.seq (.sts [(.eff [] (some 12) (.call 106) [(.t 1), (.t 2)] []),
    (.set 6 (.t 12))]) .ret) .skip)) (.seq (.seq (.sts [(.chk [] (.c2 (.bin .geq) (.t 1) (.c (.int .i64 15)))),
    (.chk [((.o2 (.bin .geq) (.t 1) (.c (.int .i64 15))), true)] (.c2 (.bin .leq) (.t 1) (.c (.int .i64 24)))),
    (.chk [] (.c3 .pick (.o2 (.bin .geq) (.t 1) (.c (.int .i64 15))) (.o2 (.bin .leq) (.t 1) (.c (.int .i64 24))) (.c (.bool false)))),
    (.set 18 (.o3 .pick (.o2 (.bin .geq) (.t 1) (.c (.int .i64 15))) (.o2 (.bin .leq) (.t 1) (.c (.int .i64 24))) (.c (.bool false))))]) (.cond 18 (.seq (.sts [(.eff [] (some 21) (.call 107) [(.t 1), (.t 2)] []),
    (.set 6 (.t 21))]) .ret) .skip)) (.seq (.sts [(.set 7 (.c (.int .i64 0)))]) (.seq (.seq (.sts [(.chk [] (.c2 (.bin .eql) (.t 0) (.c (.int .i64 5)))),
    (.set 23 (.o2 (.bin .eql) (.t 0) (.c (.int .i64 5))))]) (.cond 23 (.sts [(.set 7 (.c (.int .i64 25)))]) .skip)) (.seq (.sts [(.eff [] (some 27) (.call 108) [(.t 1), (.t 2), (.t 7)] []),
    (.set 6 (.t 27))]) .ret))))))
def rpMove_E : Res := [(none, (.t 6))]
theorem rpMove_C : Tryd.f87.body.bind (comp Tryd.prog rpMove_M Tryd.f87.ntmps) = some rpMove_S := by kernel_rfl
theorem rpMove_R : resE Tryd.prog rpMove_M Tryd.f87.results.toList = some rpMove_E := by kernel_rfl
theorem rpMove_H (G : Ctr) (hG : GOk Tryd.prog G) (a0 : Value) (a1 : Value) (a2 : Value) {h : H} {K : Value → H → Prop} {KP : List PanicEntry → H → Prop} (Hw : wpS G rpMove_S (retQ rpMove_E (callK K KP)) (envOf 0 [a0, a1, a2] env0) h) : HCX Tryd.prog 87 [a0, a1, a2] h K KP :=
  .inl ⟨by kernel_rfl, hc_of mixed hG Tryd.func87 rpMove_C rpMove_R (of_decide_eq_true (by kernel_rfl)) Hw⟩
def rpIsTerm_M : Nat → Bool := fun i => Nat.testBit 5 i
def rpIsTerm_S : S :=
  (.seq (.sts [(.set 2 (.c (.bool false)))]) (.seq (.sts [(.chk [] (.c2 (.bin .eql) (.t 0) (.c (.int .i64 1)))),
    (.chk [((.o2 (.bin .eql) (.t 0) (.c (.int .i64 1))), false)] (.c2 (.bin .eql) (.t 0) (.c (.int .i64 2)))),
    (.chk [] (.c3 .pick (.o2 (.bin .eql) (.t 0) (.c (.int .i64 1))) (.c (.bool true)) (.o2 (.bin .eql) (.t 0) (.c (.int .i64 2))))),
    (.chk [((.o3 .pick (.o2 (.bin .eql) (.t 0) (.c (.int .i64 1))) (.c (.bool true)) (.o2 (.bin .eql) (.t 0) (.c (.int .i64 2)))), false)] (.c2 (.bin .eql) (.t 0) (.c (.int .i64 3)))),
    (.chk [] (.c3 .pick (.o3 .pick (.o2 (.bin .eql) (.t 0) (.c (.int .i64 1))) (.c (.bool true)) (.o2 (.bin .eql) (.t 0) (.c (.int .i64 2)))) (.c (.bool true)) (.o2 (.bin .eql) (.t 0) (.c (.int .i64 3))))),
    (.chk [((.o3 .pick (.o3 .pick (.o2 (.bin .eql) (.t 0) (.c (.int .i64 1))) (.c (.bool true)) (.o2 (.bin .eql) (.t 0) (.c (.int .i64 2)))) (.c (.bool true)) (.o2 (.bin .eql) (.t 0) (.c (.int .i64 3)))), false)] (.c2 (.bin .eql) (.t 0) (.c (.int .i64 4)))),
    (.chk [] (.c3 .pick (.o3 .pick (.o3 .pick (.o2 (.bin .eql) (.t 0) (.c (.int .i64 1))) (.c (.bool true)) (.o2 (.bin .eql) (.t 0) (.c (.int .i64 2)))) (.c (.bool true)) (.o2 (.bin .eql) (.t 0) (.c (.int .i64 3)))) (.c (.bool true)) (.o2 (.bin .eql) (.t 0) (.c (.int .i64 4))))),
    (.set 2 (.o3 .pick (.o3 .pick (.o3 .pick (.o2 (.bin .eql) (.t 0) (.c (.int .i64 1))) (.c (.bool true)) (.o2 (.bin .eql) (.t 0) (.c (.int .i64 2)))) (.c (.bool true)) (.o2 (.bin .eql) (.t 0) (.c (.int .i64 3)))) (.c (.bool true)) (.o2 (.bin .eql) (.t 0) (.c (.int .i64 4)))))]) .ret))
def rpIsTerm_E : Res := [(none, (.t 2))]
theorem rpIsTerm_C : Tryd.f90.body.bind (comp Tryd.prog rpIsTerm_M Tryd.f90.ntmps) = some rpIsTerm_S := by kernel_rfl
theorem rpIsTerm_R : resE Tryd.prog rpIsTerm_M Tryd.f90.results.toList = some rpIsTerm_E := by kernel_rfl
theorem rpIsTerm_H (G : Ctr) (hG : GOk Tryd.prog G) (a0 : Value) {h : H} {K : Value → H → Prop} {KP : List PanicEntry → H → Prop} (Hw : wpS G rpIsTerm_S (retQ rpIsTerm_E (callK K KP)) (envOf 0 [a0] env0) h) : HCX Tryd.prog 90 [a0] h K KP :=
  .inl ⟨by kernel_rfl, hc_of mixed hG Tryd.func90 rpIsTerm_C rpIsTerm_R (of_decide_eq_true (by kernel_rfl)) Hw⟩
def rpIsValue_M : Nat → Bool := fun i => Nat.testBit 5 i
def rpIsValue_S : S :=
  (.seq (.sts [(.set 2 (.c (.bool false)))]) (.seq (.sts [(.chk [] (.c2 (.bin .eql) (.t 0) (.c (.int .i64 1)))),
    (.chk [((.o2 (.bin .eql) (.t 0) (.c (.int .i64 1))), false)] (.c2 (.bin .eql) (.t 0) (.c (.int .i64 3)))),
    (.chk [] (.c3 .pick (.o2 (.bin .eql) (.t 0) (.c (.int .i64 1))) (.c (.bool true)) (.o2 (.bin .eql) (.t 0) (.c (.int .i64 3))))),
    (.chk [((.o3 .pick (.o2 (.bin .eql) (.t 0) (.c (.int .i64 1))) (.c (.bool true)) (.o2 (.bin .eql) (.t 0) (.c (.int .i64 3)))), false)] (.c2 (.bin .eql) (.t 0) (.c (.int .i64 4)))),
    (.chk [] (.c3 .pick (.o3 .pick (.o2 (.bin .eql) (.t 0) (.c (.int .i64 1))) (.c (.bool true)) (.o2 (.bin .eql) (.t 0) (.c (.int .i64 3)))) (.c (.bool true)) (.o2 (.bin .eql) (.t 0) (.c (.int .i64 4))))),
    (.set 2 (.o3 .pick (.o3 .pick (.o2 (.bin .eql) (.t 0) (.c (.int .i64 1))) (.c (.bool true)) (.o2 (.bin .eql) (.t 0) (.c (.int .i64 3)))) (.c (.bool true)) (.o2 (.bin .eql) (.t 0) (.c (.int .i64 4)))))]) .ret))
def rpIsValue_E : Res := [(none, (.t 2))]
theorem rpIsValue_C : Tryd.f130.body.bind (comp Tryd.prog rpIsValue_M Tryd.f130.ntmps) = some rpIsValue_S := by kernel_rfl
theorem rpIsValue_R : resE Tryd.prog rpIsValue_M Tryd.f130.results.toList = some rpIsValue_E := by kernel_rfl
theorem rpIsValue_H (G : Ctr) (hG : GOk Tryd.prog G) (a0 : Value) {h : H} {K : Value → H → Prop} {KP : List PanicEntry → H → Prop} (Hw : wpS G rpIsValue_S (retQ rpIsValue_E (callK K KP)) (envOf 0 [a0] env0) h) : HCX Tryd.prog 130 [a0] h K KP :=
  .inl ⟨by kernel_rfl, hc_of mixed hG Tryd.func130 rpIsValue_C rpIsValue_R (of_decide_eq_true (by kernel_rfl)) Hw⟩
def rpTake_M : Nat → Bool := fun i => Nat.testBit 316661513060559 i
def rpTake_S : S :=
  (.seq (.sts [(.eff [] (some 3) (.box 150) [(.t 0)] []),
    (.eff [] (some 6) (.alloc 150 #[(.int .i64 0), (.int .i64 0), (.int .i64 0)]) [] [])]) (.seq (.block 0 (.seq (.seq (.sts [(.chk [] (.c2 (.bin .eql) (.t 1) (.c (.int .i64 0)))),
    (.chk [((.o2 (.bin .eql) (.t 1) (.c (.int .i64 0))), true)] (.c2 (.bin .eql) (.t 2) (.c (.int .i64 1)))),
    (.chk [] (.c3 .pick (.o2 (.bin .eql) (.t 1) (.c (.int .i64 0))) (.o2 (.bin .eql) (.t 2) (.c (.int .i64 1))) (.c (.bool false)))),
    (.set 7 (.o3 .pick (.o2 (.bin .eql) (.t 1) (.c (.int .i64 0))) (.o2 (.bin .eql) (.t 2) (.c (.int .i64 1))) (.c (.bool false))))]) (.cond 7 .skip (.sts [(.chk [] (.c2 (.bin .eql) (.t 1) (.c (.int .i64 15)))),
    (.chk [((.o2 (.bin .eql) (.t 1) (.c (.int .i64 15))), true)] (.c2 (.bin .eql) (.t 2) (.c (.int .i64 1)))),
    (.chk [] (.c3 .pick (.o2 (.bin .eql) (.t 1) (.c (.int .i64 15))) (.o2 (.bin .eql) (.t 2) (.c (.int .i64 1))) (.c (.bool false)))),
    (.set 7 (.o3 .pick (.o2 (.bin .eql) (.t 1) (.c (.int .i64 15))) (.o2 (.bin .eql) (.t 2) (.c (.int .i64 1))) (.c (.bool false))))]))) (.cond 7 (.sts [(.chk [] (.c1 (.fld 0) (.t 3))),
    (.chk [] (.c1 .ld1 (.o1 (.fld 0) (.t 3)))),
    (.chk [] (.c2 (.bin .add) (.o1 .ld1 (.o1 (.fld 0) (.t 3))) (.c (.int .i64 1)))),
    (.chk [] (.c1 (.fld 0) (.t 3))),
    (.set 22 (.o2 (.bin .add) (.o1 .ld1 (.o1 (.fld 0) (.t 3))) (.c (.int .i64 1)))),
    (.eff [] none (.store 1) [(.o1 (.fld 0) (.t 3)), (.t 22)] [])]) (.seq (.sts [(.chk [] (.c2 (.bin .eql) (.t 1) (.c (.int .i64 5)))),
    (.set 24 (.o2 (.bin .eql) (.t 1) (.c (.int .i64 5))))]) (.cond 24 (.sts [(.chk [] (.c1 (.fld 1) (.t 3))),
    (.chk [] (.c1 .ld1 (.o1 (.fld 1) (.t 3)))),
    (.chk [] (.c2 (.bin .add) (.o1 .ld1 (.o1 (.fld 1) (.t 3))) (.c (.int .i64 1)))),
    (.chk [] (.c1 (.fld 1) (.t 3))),
    (.set 29 (.o2 (.bin .add) (.o1 .ld1 (.o1 (.fld 1) (.t 3))) (.c (.int .i64 1)))),
    (.eff [] none (.store 1) [(.o1 (.fld 1) (.t 3)), (.t 29)] [])]) (.seq (.seq (.sts [(.chk [] (.c2 (.bin .eql) (.t 1) (.c (.int .i64 2)))),
    (.set 31 (.o2 (.bin .eql) (.t 1) (.c (.int .i64 2))))]) (.cond 31 .skip (.seq (.sts [(.chk [] (.c2 (.bin .eql) (.t 1) (.c (.int .i64 9)))),
    (.set 31 (.o2 (.bin .eql) (.t 1) (.c (.int .i64 9))))]) (.cond 31 .skip (.seq (.sts [(.chk [] (.c2 (.bin .eql) (.t 1) (.c (.int .i64 17)))),
    (.set 31 (.o2 (.bin .eql) (.t 1) (.c (.int .i64 17))))]) (.cond 31 .skip (.sts [(.chk [] (.c2 (.bin .eql) (.t 1) (.c (.int .i64 22)))),
    (.set 31 (.o2 (.bin .eql) (.t 1) (.c (.int .i64 22))))]))))))) (.cond 31 (.sts [(.chk [] (.c1 (.fld 2) (.t 3))),
    (.chk [] (.c1 .ld1 (.o1 (.fld 2) (.t 3)))),
    (.chk [] (.c2 (.bin .add) (.o1 .ld1 (.o1 (.fld 2) (.t 3))) (.c (.int .i64 1)))),
    (.chk [] (.c1 (.fld 2) (.t 3))),
    (.set 42 (.o2 (.bin .add) (.o1 .ld1 (.o1 (.fld 2) (.t 3))) (.c (.int .i64 1)))),
    (.eff [] none (.store 1) [(.o1 (.fld 2) (.t 3)), (.t 42)] [])]) .skip))))))) (.seq (.seq (.sts [(.chk [] (.c2 (.bin .eql) (.t 2) (.c (.int .i64 5)))),
    (.set 45 (.o2 (.bin .eql) (.t 2) (.c (.int .i64 5))))]) (.cond 45 (.sts [(.chk [] (.c1 (.fld 2) (.t 3))),
    (.eff [] none (.store 1) [(.o1 (.fld 2) (.t 3)), (.c (.int .i64 0))] [])]) .skip)) (.seq (.seq (.sts [(.chk [] (.c2 (.bin .eql) (.t 2) (.c (.int .i64 9)))),
    (.set 48 (.o2 (.bin .eql) (.t 2) (.c (.int .i64 9))))]) (.cond 48 (.sts [(.chk [] (.c1 (.fld 1) (.t 3))),
    (.eff [] none (.store 1) [(.o1 (.fld 1) (.t 3)), (.c (.int .i64 0))] [])]) .skip)) (.seq (.sts [(.chk [] (.c1 (.ldn 3) (.t 3))),
    (.set 50 (.o1 (.ldn 3) (.t 3))),
    (.eff [] none (.store 3) [(.t 6), (.t 50)] [])]) .ret)))))
def rpTake_E : Res := [((some (.c1 (.ldn 3) (.t 6))), (.o1 (.ldn 3) (.t 6)))]
theorem rpTake_C : Tryd.f88.body.bind (comp Tryd.prog rpTake_M Tryd.f88.ntmps) = some rpTake_S := by kernel_rfl
theorem rpTake_R : resE Tryd.prog rpTake_M Tryd.f88.results.toList = some rpTake_E := by kernel_rfl
theorem rpTake_H (G : Ctr) (hG : GOk Tryd.prog G) (a0 : Value) (a1 : Value) (a2 : Value) {h : H} {K : Value → H → Prop} {KP : List PanicEntry → H → Prop} (Hw : wpS G rpTake_S (retQ rpTake_E (callK K KP)) (envOf 0 [a0, a1, a2] env0) h) : HCX Tryd.prog 88 [a0, a1, a2] h K KP :=
  .inl ⟨by kernel_rfl, hc_of mixed hG Tryd.func88 rpTake_C rpTake_R (of_decide_eq_true (by kernel_rfl)) Hw⟩
def rpOver_M : Nat → Bool := fun i => Nat.testBit 17825847 i
def rpOver_S : S :=
  (.seq (.sts [(.eff [] (some 2) (.box 150) [(.t 0)] []),
    (.set 4 (.c (.int .i64 0)))]) (.seq (.block 0 (.seq (.seq (.sts [(.chk [] (.c2 (.bin .eql) (.t 1) (.c (.int .i64 0)))),
    (.chk [((.o2 (.bin .eql) (.t 1) (.c (.int .i64 0))), true)] (.c1 (.fld 0) (.t 2))),
    (.chk [((.o2 (.bin .eql) (.t 1) (.c (.int .i64 0))), true)] (.c1 .ld1 (.o1 (.fld 0) (.t 2)))),
    (.chk [((.o2 (.bin .eql) (.t 1) (.c (.int .i64 0))), true)] (.c2 (.bin .gtr) (.o1 .ld1 (.o1 (.fld 0) (.t 2))) (.c (.int .i64 512)))),
    (.chk [] (.c3 .pick (.o2 (.bin .eql) (.t 1) (.c (.int .i64 0))) (.o2 (.bin .gtr) (.o1 .ld1 (.o1 (.fld 0) (.t 2))) (.c (.int .i64 512))) (.c (.bool false)))),
    (.set 5 (.o3 .pick (.o2 (.bin .eql) (.t 1) (.c (.int .i64 0))) (.o2 (.bin .gtr) (.o1 .ld1 (.o1 (.fld 0) (.t 2))) (.c (.int .i64 512))) (.c (.bool false))))]) (.cond 5 .skip (.sts [(.chk [] (.c2 (.bin .eql) (.t 1) (.c (.int .i64 15)))),
    (.chk [((.o2 (.bin .eql) (.t 1) (.c (.int .i64 15))), true)] (.c1 (.fld 0) (.t 2))),
    (.chk [((.o2 (.bin .eql) (.t 1) (.c (.int .i64 15))), true)] (.c1 .ld1 (.o1 (.fld 0) (.t 2)))),
    (.chk [((.o2 (.bin .eql) (.t 1) (.c (.int .i64 15))), true)] (.c2 (.bin .gtr) (.o1 .ld1 (.o1 (.fld 0) (.t 2))) (.c (.int .i64 4096)))),
    (.chk [] (.c3 .pick (.o2 (.bin .eql) (.t 1) (.c (.int .i64 15))) (.o2 (.bin .gtr) (.o1 .ld1 (.o1 (.fld 0) (.t 2))) (.c (.int .i64 4096))) (.c (.bool false)))),
    (.set 5 (.o3 .pick (.o2 (.bin .eql) (.t 1) (.c (.int .i64 15))) (.o2 (.bin .gtr) (.o1 .ld1 (.o1 (.fld 0) (.t 2))) (.c (.int .i64 4096))) (.c (.bool false))))]))) (.cond 5 (.seq (.sts [(.set 4 (.c (.int .i64 24)))]) .ret) (.seq (.sts [(.chk [] (.c1 (.fld 1) (.t 2))),
    (.chk [] (.c1 .ld1 (.o1 (.fld 1) (.t 2)))),
    (.chk [] (.c2 (.bin .gtr) (.o1 .ld1 (.o1 (.fld 1) (.t 2))) (.c (.int .i64 16)))),
    (.set 20 (.o2 (.bin .gtr) (.o1 .ld1 (.o1 (.fld 1) (.t 2))) (.c (.int .i64 16))))]) (.cond 20 (.seq (.sts [(.set 4 (.c (.int .i64 23)))]) .ret) (.seq (.sts [(.chk [] (.c1 (.fld 2) (.t 2))),
    (.chk [] (.c1 .ld1 (.o1 (.fld 2) (.t 2)))),
    (.chk [] (.c2 (.bin .gtr) (.o1 .ld1 (.o1 (.fld 2) (.t 2))) (.c (.int .i64 8)))),
    (.set 24 (.o2 (.bin .gtr) (.o1 .ld1 (.o1 (.fld 2) (.t 2))) (.c (.int .i64 8))))]) (.cond 24 (.seq (.sts [(.set 4 (.c (.int .i64 22)))]) .ret) .skip))))))) (.seq (.sts [(.set 4 (.c (.int .i64 0)))]) .ret)))
def rpOver_E : Res := [(none, (.t 4))]
theorem rpOver_C : Tryd.f89.body.bind (comp Tryd.prog rpOver_M Tryd.f89.ntmps) = some rpOver_S := by kernel_rfl
theorem rpOver_R : resE Tryd.prog rpOver_M Tryd.f89.results.toList = some rpOver_E := by kernel_rfl
theorem rpOver_H (G : Ctr) (hG : GOk Tryd.prog G) (a0 : Value) (a1 : Value) {h : H} {K : Value → H → Prop} {KP : List PanicEntry → H → Prop} (Hw : wpS G rpOver_S (retQ rpOver_E (callK K KP)) (envOf 0 [a0, a1] env0) h) : HCX Tryd.prog 89 [a0, a1] h K KP :=
  .inl ⟨by kernel_rfl, hc_of mixed hG Tryd.func89 rpOver_C rpOver_R (of_decide_eq_true (by kernel_rfl)) Hw⟩
def rpCheck_M : Nat → Bool := fun i => Nat.testBit 295724438499675421683 i
def rpCheck_L1 : S :=
  (.seq (.sts [(.chk [] (.c2 (.bin .lss) (.t 26) (.t 25))),
    (.set 27 (.o2 (.bin .lss) (.t 26) (.t 25)))]) (.seq (.cond 27 .skip (.exit 0)) (.seq (.block 1 (.seq (.sts [(.chk [] (.c2 (.idxA 6) (.t 24) (.t 26))),
    (.chk [] (.c1 (.ldn 6) (.o2 (.idxA 6) (.t 24) (.t 26)))),
    (.set 29 (.o1 (.ldn 6) (.o2 (.idxA 6) (.t 24) (.t 26)))),
    (.eff [] (some 11) (.alloc 75 #[(.int .i64 0), (str []), (.int .i64 0), (.int .i64 0), (.int .i64 0), (.int .i64 0)]) [] []),
    (.eff [] none (.store 6) [(.t 11), (.t 29)] [])]) (.seq (.sts [(.chk [] (.c1 (.fld 0) (.t 11))),
    (.chk [] (.c1 .ld1 (.o1 (.fld 0) (.t 11)))),
    (.set 33 (.o1 .ld1 (.o1 (.fld 0) (.t 11)))),
    (.eff [] (some 34) (.call 87) [(.t 1), (.t 8), (.t 33)] []),
    (.set 12 (.t 34))]) (.seq (.seq (.sts [(.chk [] (.c2 (.bin .eql) (.t 12) (.c (.int .i64 (-1))))),
    (.chk [((.o2 (.bin .eql) (.t 12) (.c (.int .i64 (-1)))), true)] (.c1 (.fld 0) (.t 11))),
    (.chk [((.o2 (.bin .eql) (.t 12) (.c (.int .i64 (-1)))), true)] (.c1 .ld1 (.o1 (.fld 0) (.t 11)))),
    (.chk [((.o2 (.bin .eql) (.t 12) (.c (.int .i64 (-1)))), true)] (.c2 (.bin .eql) (.o1 .ld1 (.o1 (.fld 0) (.t 11))) (.c (.int .i64 0)))),
    (.chk [] (.c3 .pick (.o2 (.bin .eql) (.t 12) (.c (.int .i64 (-1)))) (.o2 (.bin .eql) (.o1 .ld1 (.o1 (.fld 0) (.t 11))) (.c (.int .i64 0))) (.c (.bool false)))),
    (.set 41 (.o3 .pick (.o2 (.bin .eql) (.t 12) (.c (.int .i64 (-1)))) (.o2 (.bin .eql) (.o1 .ld1 (.o1 (.fld 0) (.t 11))) (.c (.int .i64 0))) (.c (.bool false))))]) (.cond 41 (.seq (.sts [(.chk [] (.c1 (.fld 4) (.t 11))),
    (.chk [] (.c1 .ld1 (.o1 (.fld 4) (.t 11)))),
    (.chk [] (.cb 3 [(0, (1, (.c (.int .i64 21)))), (2, (1, (.o1 .ld1 (.o1 (.fld 4) (.t 11)))))])),
    (.set 4 (.c (.slice none 0 0))),
    (.set 44 (.o2 (.put 2 1) (.o2 (.put 0 1) (.c (.agg #[(.int .i64 0), (.int .i64 0), (.int .i64 0)])) (.c (.int .i64 21))) (.o1 .ld1 (.o1 (.fld 4) (.t 11))))),
    (.eff [] none (.store 3) [(.t 5), (.t 44)] [])]) .ret) .skip)) (.seq (.seq (.sts [(.chk [] (.c2 (.bin .eql) (.t 12) (.c (.int .i64 (-1))))),
    (.set 46 (.o2 (.bin .eql) (.t 12) (.c (.int .i64 (-1)))))]) (.cond 46 (.seq (.sts [(.chk [] (.c1 (.fld 4) (.t 11))),
    (.chk [] (.c1 .ld1 (.o1 (.fld 4) (.t 11)))),
    (.chk [] (.cb 3 [(0, (1, (.c (.int .i64 20)))), (2, (1, (.o1 .ld1 (.o1 (.fld 4) (.t 11)))))])),
    (.set 4 (.c (.slice none 0 0))),
    (.set 49 (.o2 (.put 2 1) (.o2 (.put 0 1) (.c (.agg #[(.int .i64 0), (.int .i64 0), (.int .i64 0)])) (.c (.int .i64 20))) (.o1 .ld1 (.o1 (.fld 4) (.t 11))))),
    (.eff [] none (.store 3) [(.t 5), (.t 49)] [])]) .ret) .skip)) (.seq (.sts [(.chk [] (.c1 (.ldn 3) (.t 9))),
    (.chk [] (.c1 (.fld 0) (.t 11))),
    (.chk [] (.c1 .ld1 (.o1 (.fld 0) (.t 11)))),
    (.set 53 (.o1 .ld1 (.o1 (.fld 0) (.t 11)))),
    (.set 50 (.o1 (.ldn 3) (.t 9))),
    (.eff [] (some 54) (.call 88) [(.t 50), (.t 8), (.t 53)] []),
    (.eff [] none (.store 3) [(.t 9), (.t 54)] [])]) (.seq (.sts [(.chk [] (.c1 (.ldn 3) (.t 9))),
    (.set 55 (.o1 (.ldn 3) (.t 9))),
    (.eff [] (some 57) (.call 89) [(.t 55), (.t 1)] []),
    (.set 13 (.t 57))]) (.seq (.seq (.sts [(.chk [] (.c2 (.bin .neq) (.t 13) (.c (.int .i64 0)))),
    (.set 59 (.o2 (.bin .neq) (.t 13) (.c (.int .i64 0))))]) (.cond 59 (.seq (.sts [(.chk [] (.c1 (.fld 4) (.t 11))),
    (.chk [] (.c1 .ld1 (.o1 (.fld 4) (.t 11)))),
    (.chk [] (.cb 3 [(0, (1, (.t 13))), (2, (1, (.o1 .ld1 (.o1 (.fld 4) (.t 11)))))])),
    (.set 4 (.c (.slice none 0 0))),
    (.set 63 (.o2 (.put 2 1) (.o2 (.put 0 1) (.c (.agg #[(.int .i64 0), (.int .i64 0), (.int .i64 0)])) (.t 13)) (.o1 .ld1 (.o1 (.fld 4) (.t 11))))),
    (.eff [] none (.store 3) [(.t 5), (.t 63)] [])]) .ret) .skip)) (.sts [(.set 8 (.t 12))]))))))))) (.sts [(.chk [] (.c2 (.bin .add) (.t 26) (.c (.int .i64 1)))),
    (.set 65 (.o2 (.bin .add) (.t 26) (.c (.int .i64 1)))),
    (.set 26 (.t 65))]))))
def rpCheck_S : S :=
  (.seq (.sts [(.set 4 (.c (.slice none 0 0))),
    (.eff [] (some 5) (.alloc 27 #[(.int .i64 0), (.int .i64 0), (.int .i64 0)]) [] [])]) (.seq (.seq (.sts [(.chk [] (.c1 .lens (.t 0))),
    (.chk [] (.c2 (.bin .gtr) (.o1 .lens (.t 0)) (.c (.int .i64 65536)))),
    (.set 16 (.o2 (.bin .gtr) (.o1 .lens (.t 0)) (.c (.int .i64 65536))))]) (.cond 16 (.seq (.sts [(.chk [] (.cb 3 [(0, (1, (.c (.int .i64 1))))])),
    (.set 4 (.c (.slice none 0 0))),
    (.eff [] none (.store 3) [(.t 5), (.o2 (.put 0 1) (.c (.agg #[(.int .i64 0), (.int .i64 0), (.int .i64 0)])) (.c (.int .i64 1)))] [])]) .ret) .skip)) (.seq (.sts [(.eff [] (some 20) (.call 86) [(.t 0)] []),
    (.chk [] (.c1 (.ext 0) (.t 20))),
    (.chk [] (.c1 (.ext 1) (.t 20))),
    (.eff [] (some 7) (.alloc 27 #[(.int .i64 0), (.int .i64 0), (.int .i64 0)]) [] []),
    (.set 6 (.o1 (.ext 0) (.t 20))),
    (.eff [] none (.store 3) [(.t 7), (.o1 (.ext 1) (.t 20))] [])]) (.seq (.sts [(.set 8 (.t 1))]) (.seq (.sts [(.eff [] (some 9) (.alloc 150 #[(.int .i64 0), (.int .i64 0), (.int .i64 0)]) [] [])]) (.seq (.seq (.sts [(.set 24 (.t 6)),
    (.chk [] (.c1 .len (.t 24))),
    (.set 25 (.o1 .len (.t 24))),
    (.set 26 (.c (.int .i64 0)))]) (.block 0 (.loop rpCheck_L1))) (.seq (.seq (.sts [(.chk [] (.c1 (.fld 0) (.t 7))),
    (.chk [] (.c1 .ld1 (.o1 (.fld 0) (.t 7)))),
    (.chk [] (.c2 (.bin .neq) (.o1 .ld1 (.o1 (.fld 0) (.t 7))) (.c (.int .i64 0)))),
    (.set 68 (.o2 (.bin .neq) (.o1 .ld1 (.o1 (.fld 0) (.t 7))) (.c (.int .i64 0))))]) (.cond 68 (.seq (.sts [(.chk [] (.c1 (.ldn 3) (.t 7))),
    (.set 4 (.c (.slice none 0 0))),
    (.set 69 (.o1 (.ldn 3) (.t 7))),
    (.eff [] none (.store 3) [(.t 5), (.t 69)] [])]) .ret) .skip)) (.seq (.sts [(.chk [] (.cb 3 [])),
    (.set 4 (.t 6)),
    (.eff [] none (.store 3) [(.t 5), (.c (.agg #[(.int .i64 0), (.int .i64 0), (.int .i64 0)]))] [])]) .ret))))))))
def rpCheck_E : Res := [(none, (.t 4)), ((some (.c1 (.ldn 3) (.t 5))), (.o1 (.ldn 3) (.t 5)))]
theorem rpCheck_C : Tryd.f58.body.bind (comp Tryd.prog rpCheck_M Tryd.f58.ntmps) = some rpCheck_S := by kernel_rfl
theorem rpCheck_R : resE Tryd.prog rpCheck_M Tryd.f58.results.toList = some rpCheck_E := by kernel_rfl
theorem rpCheck_H (G : Ctr) (hG : GOk Tryd.prog G) (a0 : Value) (a1 : Value) {h : H} {K : Value → H → Prop} {KP : List PanicEntry → H → Prop} (Hw : wpS G rpCheck_S (retQ rpCheck_E (callK K KP)) (envOf 0 [a0, a1] env0) h) : HCX Tryd.prog 58 [a0, a1] h K KP :=
  .inl ⟨by kernel_rfl, hc_of mixed hG Tryd.func58 rpCheck_C rpCheck_R (of_decide_eq_true (by kernel_rfl)) Hw⟩
def rpCut_M : Nat → Bool := fun i => Nat.testBit 8598601459 i
def rpCut_L1 : S :=
  (.seq (.sts [(.chk [] (.c2 (.bin .lss) (.t 12) (.t 11))),
    (.set 13 (.o2 (.bin .lss) (.t 12) (.t 11)))]) (.seq (.cond 13 .skip (.exit 0)) (.seq (.block 1 (.seq (.sts [(.chk [] (.c2 (.idxA 6) (.t 10) (.t 12))),
    (.chk [] (.c1 (.ldn 6) (.o2 (.idxA 6) (.t 10) (.t 12)))),
    (.set 15 (.o1 (.ldn 6) (.o2 (.idxA 6) (.t 10) (.t 12)))),
    (.eff [] (some 9) (.alloc 75 #[(.int .i64 0), (str []), (.int .i64 0), (.int .i64 0), (.int .i64 0), (.int .i64 0)]) [] []),
    (.eff [] none (.store 6) [(.t 9), (.t 15)] [])]) (.seq (.seq (.sts [(.chk [] (.c1 (.fld 0) (.t 9))),
    (.chk [] (.c1 .ld1 (.o1 (.fld 0) (.t 9)))),
    (.chk [] (.c2 (.bin .eql) (.o1 .ld1 (.o1 (.fld 0) (.t 9))) (.c (.int .i64 5)))),
    (.set 18 (.o2 (.bin .eql) (.o1 .ld1 (.o1 (.fld 0) (.t 9))) (.c (.int .i64 5))))]) (.cond 18 (.sts [(.chk [] (.c2 (.bin .add) (.t 7) (.c (.int .i64 1)))),
    (.set 20 (.o2 (.bin .add) (.t 7) (.c (.int .i64 1)))),
    (.set 7 (.t 20))]) .skip)) (.seq (.seq (.sts [(.chk [] (.c1 (.fld 0) (.t 9))),
    (.chk [] (.c1 .ld1 (.o1 (.fld 0) (.t 9)))),
    (.chk [] (.c2 (.bin .eql) (.o1 .ld1 (.o1 (.fld 0) (.t 9))) (.c (.int .i64 6)))),
    (.set 23 (.o2 (.bin .eql) (.o1 .ld1 (.o1 (.fld 0) (.t 9))) (.c (.int .i64 6))))]) (.cond 23 (.sts [(.chk [] (.c2 (.bin .sub) (.t 7) (.c (.int .i64 1)))),
    (.set 25 (.o2 (.bin .sub) (.t 7) (.c (.int .i64 1)))),
    (.set 7 (.t 25))]) .skip)) (.seq (.seq (.sts [(.chk [] (.c1 (.fld 0) (.t 9))),
    (.chk [] (.c1 .ld1 (.o1 (.fld 0) (.t 9)))),
    (.chk [] (.c2 (.bin .eql) (.o1 .ld1 (.o1 (.fld 0) (.t 9))) (.t 1))),
    (.chk [((.o2 (.bin .eql) (.o1 .ld1 (.o1 (.fld 0) (.t 9))) (.t 1)), true)] (.c2 (.bin .eql) (.t 7) (.c (.int .i64 0)))),
    (.chk [] (.c3 .pick (.o2 (.bin .eql) (.o1 .ld1 (.o1 (.fld 0) (.t 9))) (.t 1)) (.o2 (.bin .eql) (.t 7) (.c (.int .i64 0))) (.c (.bool false)))),
    (.set 33 (.o3 .pick (.o2 (.bin .eql) (.o1 .ld1 (.o1 (.fld 0) (.t 9))) (.t 1)) (.o2 (.bin .eql) (.t 7) (.c (.int .i64 0))) (.c (.bool false))))]) (.cond 33 (.seq (.sts [(.eff [] (some 36) (.bsl 66 1 1 [(.slice none 0 0)] [0]) [(.t 6)] []),
    (.eff [] (some 37) (.app 66 1 24 [(.slice none 0 0)]) [(.t 5), (.t 36)] []),
    (.set 5 (.t 37))]) (.seq (.sts [(.set 6 (.c (.slice none 0 0)))]) (.exit 1))) .skip)) (.sts [(.chk [] (.c1 (.ldn 6) (.t 9))),
    (.set 39 (.o1 (.ldn 6) (.t 9))),
    (.eff [] (some 40) (.bsl 75 6 1 [(.int .i64 0), (str []), (.int .i64 0), (.int .i64 0), (.int .i64 0), (.int .i64 0)] [0]) [(.t 39)] []),
    (.eff [] (some 41) (.app 75 6 56 [(.int .i64 0), (str []), (.int .i64 0), (.int .i64 0), (.int .i64 0), (.int .i64 0)]) [(.t 6), (.t 40)] []),
    (.set 6 (.t 41))])))))) (.sts [(.chk [] (.c2 (.bin .add) (.t 12) (.c (.int .i64 1)))),
    (.set 42 (.o2 (.bin .add) (.t 12) (.c (.int .i64 1)))),
    (.set 12 (.t 42))]))))
def rpCut_S : S :=
  (.seq (.sts [(.set 4 (.c (.slice none 0 0)))]) (.seq (.sts [(.set 5 (.c (.slice none 0 0)))]) (.seq (.sts [(.set 6 (.c (.slice none 0 0)))]) (.seq (.sts [(.set 7 (.c (.int .i64 0)))]) (.seq (.seq (.sts [(.set 10 (.t 0)),
    (.chk [] (.c1 .len (.t 10))),
    (.set 11 (.o1 .len (.t 10))),
    (.set 12 (.c (.int .i64 0)))]) (.block 0 (.loop rpCut_L1))) (.seq (.sts [(.eff [] (some 45) (.bsl 66 1 1 [(.slice none 0 0)] [0]) [(.t 6)] []),
    (.eff [] (some 46) (.app 66 1 24 [(.slice none 0 0)]) [(.t 5), (.t 45)] []),
    (.set 4 (.t 46))]) .ret))))))
def rpCut_E : Res := [(none, (.t 4))]
theorem rpCut_C : Tryd.f92.body.bind (comp Tryd.prog rpCut_M Tryd.f92.ntmps) = some rpCut_S := by kernel_rfl
theorem rpCut_R : resE Tryd.prog rpCut_M Tryd.f92.results.toList = some rpCut_E := by kernel_rfl
theorem rpCut_H (G : Ctr) (hG : GOk Tryd.prog G) (a0 : Value) (a1 : Value) {h : H} {K : Value → H → Prop} {KP : List PanicEntry → H → Prop} (Hw : wpS G rpCut_S (retQ rpCut_E (callK K KP)) (envOf 0 [a0, a1] env0) h) : HCX Tryd.prog 92 [a0, a1] h K KP :=
  .inl ⟨by kernel_rfl, hc_of mixed hG Tryd.func92 rpCut_C rpCut_R (of_decide_eq_true (by kernel_rfl)) Hw⟩
def rpTerm_M : Nat → Bool := fun i => Nat.testBit 528439 i
def rpTerm_S : S :=
  (.seq (.sts [(.eff [] (some 1) (.box 75) [(.t 0)] []),
    (.eff [] (some 2) (.alloc 87 #[(.int .i64 0), (.int .i64 0), (str []), (.int .i64 0)]) [] [])]) (.seq (.seq (.sts [(.chk [] (.c1 (.fld 0) (.t 1))),
    (.chk [] (.c1 .ld1 (.o1 (.fld 0) (.t 1)))),
    (.set 4 (.o1 .ld1 (.o1 (.fld 0) (.t 1))))]) (.block 0 (.seq (.sts [(.chk [] (.c2 (.bin .eql) (.t 4) (.c (.int .i64 3)))),
    (.set 5 (.o2 (.bin .eql) (.t 4) (.c (.int .i64 3))))]) (.cond 5 (.seq (.sts [(.chk [] (.c1 (.fld 2) (.t 1))),
    (.chk [] (.c1 .ld1 (.o1 (.fld 2) (.t 1)))),
    (.chk [] (.c1 (.fld 4) (.t 1))),
    (.chk [] (.c1 .ld1 (.o1 (.fld 4) (.t 1)))),
    (.chk [] (.cb 4 [(0, (1, (.c (.int .i64 1)))), (1, (1, (.o1 .ld1 (.o1 (.fld 2) (.t 1))))), (3, (1, (.o1 .ld1 (.o1 (.fld 4) (.t 1)))))])),
    (.set 11 (.o2 (.put 3 1) (.o2 (.put 1 1) (.o2 (.put 0 1) (.c (.agg #[(.int .i64 0), (.int .i64 0), (str []), (.int .i64 0)])) (.c (.int .i64 1))) (.o1 .ld1 (.o1 (.fld 2) (.t 1)))) (.o1 .ld1 (.o1 (.fld 4) (.t 1))))),
    (.eff [] none (.store 4) [(.t 2), (.t 11)] [])]) .ret) (.seq (.sts [(.chk [] (.c2 (.bin .eql) (.t 4) (.c (.int .i64 1)))),
    (.set 12 (.o2 (.bin .eql) (.t 4) (.c (.int .i64 1))))]) (.cond 12 (.seq (.sts [(.chk [] (.c1 (.fld 1) (.t 1))),
    (.chk [] (.c1 .ld1 (.o1 (.fld 1) (.t 1)))),
    (.chk [] (.c1 (.fld 4) (.t 1))),
    (.chk [] (.c1 .ld1 (.o1 (.fld 4) (.t 1)))),
    (.chk [] (.cb 4 [(0, (1, (.c (.int .i64 2)))), (2, (1, (.o1 .ld1 (.o1 (.fld 1) (.t 1))))), (3, (1, (.o1 .ld1 (.o1 (.fld 4) (.t 1)))))])),
    (.set 18 (.o2 (.put 3 1) (.o2 (.put 2 1) (.o2 (.put 0 1) (.c (.agg #[(.int .i64 0), (.int .i64 0), (str []), (.int .i64 0)])) (.c (.int .i64 2))) (.o1 .ld1 (.o1 (.fld 1) (.t 1)))) (.o1 .ld1 (.o1 (.fld 4) (.t 1))))),
    (.eff [] none (.store 4) [(.t 2), (.t 18)] [])]) .ret) (.seq (.sts [(.chk [] (.c2 (.bin .eql) (.t 4) (.c (.int .i64 4)))),
    (.set 19 (.o2 (.bin .eql) (.t 4) (.c (.int .i64 4))))]) (.cond 19 (.seq (.sts [(.chk [] (.c1 (.fld 1) (.t 1))),
    (.chk [] (.c1 .ld1 (.o1 (.fld 1) (.t 1)))),
    (.chk [] (.c1 (.fld 4) (.t 1))),
    (.chk [] (.c1 .ld1 (.o1 (.fld 4) (.t 1)))),
    (.chk [] (.cb 4 [(0, (1, (.c (.int .i64 3)))), (2, (1, (.o1 .ld1 (.o1 (.fld 1) (.t 1))))), (3, (1, (.o1 .ld1 (.o1 (.fld 4) (.t 1)))))])),
    (.set 25 (.o2 (.put 3 1) (.o2 (.put 2 1) (.o2 (.put 0 1) (.c (.agg #[(.int .i64 0), (.int .i64 0), (str []), (.int .i64 0)])) (.c (.int .i64 3))) (.o1 .ld1 (.o1 (.fld 1) (.t 1)))) (.o1 .ld1 (.o1 (.fld 4) (.t 1))))),
    (.eff [] none (.store 4) [(.t 2), (.t 25)] [])]) .ret) .skip)))))))) (.seq (.sts [(.chk [] (.c1 (.fld 1) (.t 1))),
    (.chk [] (.c1 .ld1 (.o1 (.fld 1) (.t 1)))),
    (.chk [] (.c1 (.fld 4) (.t 1))),
    (.chk [] (.c1 .ld1 (.o1 (.fld 4) (.t 1)))),
    (.chk [] (.cb 4 [(0, (1, (.c (.int .i64 4)))), (2, (1, (.o1 .ld1 (.o1 (.fld 1) (.t 1))))), (3, (1, (.o1 .ld1 (.o1 (.fld 4) (.t 1)))))])),
    (.set 30 (.o2 (.put 3 1) (.o2 (.put 2 1) (.o2 (.put 0 1) (.c (.agg #[(.int .i64 0), (.int .i64 0), (str []), (.int .i64 0)])) (.c (.int .i64 4))) (.o1 .ld1 (.o1 (.fld 1) (.t 1)))) (.o1 .ld1 (.o1 (.fld 4) (.t 1))))),
    (.eff [] none (.store 4) [(.t 2), (.t 30)] [])]) .ret)))
def rpTerm_E : Res := [((some (.c1 (.ldn 4) (.t 2))), (.o1 (.ldn 4) (.t 2)))]
theorem rpTerm_C : Tryd.f91.body.bind (comp Tryd.prog rpTerm_M Tryd.f91.ntmps) = some rpTerm_S := by kernel_rfl
theorem rpTerm_R : resE Tryd.prog rpTerm_M Tryd.f91.results.toList = some rpTerm_E := by kernel_rfl
theorem rpTerm_H (G : Ctr) (hG : GOk Tryd.prog G) (a0 : Value) {h : H} {K : Value → H → Prop} {KP : List PanicEntry → H → Prop} (Hw : wpS G rpTerm_S (retQ rpTerm_E (callK K KP)) (envOf 0 [a0] env0) h) : HCX Tryd.prog 91 [a0] h K KP :=
  .inl ⟨by kernel_rfl, hc_of mixed hG Tryd.func91 rpTerm_C rpTerm_R (of_decide_eq_true (by kernel_rfl)) Hw⟩
def rpAtom_M : Nat → Bool := fun i => Nat.testBit 17760301 i
def rpAtom_L1 : S :=
  (.seq (.sts [(.chk [] (.c2 (.bin .lss) (.t 18) (.t 17))),
    (.set 19 (.o2 (.bin .lss) (.t 18) (.t 17)))]) (.seq (.cond 19 .skip (.exit 0)) (.seq (.block 1 (.seq (.sts [(.chk [] (.c2 (.idxA 6) (.t 16) (.t 18))),
    (.chk [] (.c1 (.ldn 6) (.o2 (.idxA 6) (.t 16) (.t 18)))),
    (.set 21 (.o1 (.ldn 6) (.o2 (.idxA 6) (.t 16) (.t 18)))),
    (.eff [] (some 5) (.alloc 75 #[(.int .i64 0), (str []), (.int .i64 0), (.int .i64 0), (.int .i64 0), (.int .i64 0)]) [] []),
    (.eff [] none (.store 6) [(.t 5), (.t 21)] [])]) (.seq (.sts [(.chk [] (.c1 (.fld 0) (.t 5))),
    (.chk [] (.c1 .ld1 (.o1 (.fld 0) (.t 5)))),
    (.set 23 (.o1 .ld1 (.o1 (.fld 0) (.t 5)))),
    (.eff [] (some 24) (.call 90) [(.t 23)] [])]) (.cond 24 (.sts [(.chk [] (.c1 (.fld 1) (.t 3))),
    (.chk [] (.c1 .ld1 (.o1 (.fld 1) (.t 3)))),
    (.chk [] (.c1 (.ldn 6) (.t 5))),
    (.set 27 (.o1 (.ldn 6) (.t 5))),
    (.set 26 (.o1 .ld1 (.o1 (.fld 1) (.t 3)))),
    (.eff [] (some 28) (.call 91) [(.t 27)] [([], ((.o1 (.fld 1) (.t 3)), none))]),
    (.eff [] (some 29) (.bsl 87 4 1 [(.int .i64 0), (.int .i64 0), (str []), (.int .i64 0)] [0]) [(.t 28)] [([], ((.o1 (.fld 1) (.t 3)), none))]),
    (.eff [] (some 30) (.app 87 4 40 [(.int .i64 0), (.int .i64 0), (str []), (.int .i64 0)]) [(.t 26), (.t 29)] []),
    (.chk [] (.c1 (.fld 1) (.t 3))),
    (.eff [] none (.store 1) [(.o1 (.fld 1) (.t 3)), (.t 30)] [])]) .skip)))) (.sts [(.chk [] (.c2 (.bin .add) (.t 18) (.c (.int .i64 1)))),
    (.set 32 (.o2 (.bin .add) (.t 18) (.c (.int .i64 1)))),
    (.set 18 (.t 32))]))))
def rpAtom_S : S :=
  (.seq (.sts [(.eff [] (some 2) (.alloc 52 #[(str []), (.slice none 0 0), (.int .i64 0)]) [] [])]) (.seq (.sts [(.chk [] (.c2 (.idxA 6) (.t 0) (.c (.int .i64 0)))),
    (.chk [] (.c1 (.fld 1) (.o2 (.idxA 6) (.t 0) (.c (.int .i64 0))))),
    (.chk [] (.c1 .ld1 (.o1 (.fld 1) (.o2 (.idxA 6) (.t 0) (.c (.int .i64 0)))))),
    (.chk [] (.c2 (.idxA 6) (.t 0) (.c (.int .i64 0)))),
    (.chk [] (.c1 (.fld 4) (.o2 (.idxA 6) (.t 0) (.c (.int .i64 0))))),
    (.chk [] (.c1 .ld1 (.o1 (.fld 4) (.o2 (.idxA 6) (.t 0) (.c (.int .i64 0)))))),
    (.chk [] (.cb 3 [(0, (1, (.o1 .ld1 (.o1 (.fld 1) (.o2 (.idxA 6) (.t 0) (.c (.int .i64 0))))))), (2, (1, (.o1 .ld1 (.o1 (.fld 4) (.o2 (.idxA 6) (.t 0) (.c (.int .i64 0)))))))])),
    (.set 14 (.o2 (.put 2 1) (.o2 (.put 0 1) (.c (.agg #[(str []), (.slice none 0 0), (.int .i64 0)])) (.o1 .ld1 (.o1 (.fld 1) (.o2 (.idxA 6) (.t 0) (.c (.int .i64 0)))))) (.o1 .ld1 (.o1 (.fld 4) (.o2 (.idxA 6) (.t 0) (.c (.int .i64 0))))))),
    (.eff [] (some 3) (.alloc 52 #[(str []), (.slice none 0 0), (.int .i64 0)]) [] [([], ((.o1 (.fld 4) (.o2 (.idxA 6) (.t 0) (.c (.int .i64 0)))), none)), ([], ((.o1 (.fld 1) (.o2 (.idxA 6) (.t 0) (.c (.int .i64 0)))), none))]),
    (.eff [] none (.store 3) [(.t 3), (.t 14)] [])]) (.seq (.seq (.sts [(.chk [] (.c2 (.cutLo 6) (.t 0) (.c (.int .i64 1)))),
    (.set 16 (.o2 (.cutLo 6) (.t 0) (.c (.int .i64 1)))),
    (.chk [] (.c1 .len (.t 16))),
    (.set 17 (.o1 .len (.t 16))),
    (.set 18 (.c (.int .i64 0)))]) (.block 0 (.loop rpAtom_L1))) (.seq (.sts [(.chk [] (.c1 (.ldn 3) (.t 3))),
    (.set 33 (.o1 (.ldn 3) (.t 3))),
    (.eff [] none (.store 3) [(.t 2), (.t 33)] [])]) .ret))))
def rpAtom_E : Res := [((some (.c1 (.ldn 3) (.t 2))), (.o1 (.ldn 3) (.t 2)))]
theorem rpAtom_C : Tryd.f59.body.bind (comp Tryd.prog rpAtom_M Tryd.f59.ntmps) = some rpAtom_S := by kernel_rfl
theorem rpAtom_R : resE Tryd.prog rpAtom_M Tryd.f59.results.toList = some rpAtom_E := by kernel_rfl
theorem rpAtom_H (G : Ctr) (hG : GOk Tryd.prog G) (a0 : Value) {h : H} {K : Value → H → Prop} {KP : List PanicEntry → H → Prop} (Hw : wpS G rpAtom_S (retQ rpAtom_E (callK K KP)) (envOf 0 [a0] env0) h) : HCX Tryd.prog 59 [a0] h K KP :=
  .inl ⟨by kernel_rfl, hc_of mixed hG Tryd.func59 rpAtom_C rpAtom_R (of_decide_eq_true (by kernel_rfl)) Hw⟩
def rpSentences_M : Nat → Bool := fun i => Nat.testBit 13 i
def rpSentences_S : S :=
  (.seq (.sts [(.set 2 (.c (.slice none 0 0)))]) (.seq (.sts [(.eff [] (some 5) (.call 92) [(.t 0), (.c (.int .i64 8))] []),
    (.set 3 (.t 5))]) (.seq (.sts [(.chk [] (.c1 .len (.t 3))),
    (.chk [] (.c2 (.bin .sub) (.o1 .len (.t 3)) (.c (.int .i64 1)))),
    (.chk [] (.c2 (.cutHi 1) (.t 3) (.o2 (.bin .sub) (.o1 .len (.t 3)) (.c (.int .i64 1))))),
    (.set 2 (.o2 (.cutHi 1) (.t 3) (.o2 (.bin .sub) (.o1 .len (.t 3)) (.c (.int .i64 1)))))]) .ret)))
def rpSentences_E : Res := [(none, (.t 2))]
theorem rpSentences_C : Tryd.f63.body.bind (comp Tryd.prog rpSentences_M Tryd.f63.ntmps) = some rpSentences_S := by kernel_rfl
theorem rpSentences_R : resE Tryd.prog rpSentences_M Tryd.f63.results.toList = some rpSentences_E := by kernel_rfl
theorem rpSentences_H (G : Ctr) (hG : GOk Tryd.prog G) (a0 : Value) {h : H} {K : Value → H → Prop} {KP : List PanicEntry → H → Prop} (Hw : wpS G rpSentences_S (retQ rpSentences_E (callK K KP)) (envOf 0 [a0] env0) h) : HCX Tryd.prog 63 [a0] h K KP :=
  .inl ⟨by kernel_rfl, hc_of mixed hG Tryd.func63 rpSentences_C rpSentences_R (of_decide_eq_true (by kernel_rfl)) Hw⟩
def rpFacts_M : Nat → Bool := fun i => Nat.testBit 7930237 i
def rpFacts_L1 : S :=
  (.seq (.sts [(.chk [] (.c2 (.bin .lss) (.t 21) (.t 20))),
    (.set 22 (.o2 (.bin .lss) (.t 21) (.t 20)))]) (.seq (.cond 22 .skip (.exit 0)) (.seq (.block 1 (.seq (.sts [(.chk [] (.c2 (.idxA 1) (.t 19) (.t 21))),
    (.chk [] (.c1 .ld1 (.o2 (.idxA 1) (.t 19) (.t 21)))),
    (.set 8 (.o1 .ld1 (.o2 (.idxA 1) (.t 19) (.t 21))))]) (.sts [(.eff [] (some 27) (.call 59) [(.t 8)] []),
    (.eff [] (some 28) (.bsl 52 3 1 [(str []), (.slice none 0 0), (.int .i64 0)] [0]) [(.t 27)] []),
    (.eff [] (some 29) (.app 52 3 48 [(str []), (.slice none 0 0), (.int .i64 0)]) [(.t 6), (.t 28)] []),
    (.set 6 (.t 29))]))) (.sts [(.chk [] (.c2 (.bin .add) (.t 21) (.c (.int .i64 1)))),
    (.set 30 (.o2 (.bin .add) (.t 21) (.c (.int .i64 1)))),
    (.set 21 (.t 30))]))))
def rpFacts_S : S :=
  (.seq (.sts [(.set 2 (.c (.slice none 0 0))),
    (.eff [] (some 3) (.alloc 27 #[(.int .i64 0), (.int .i64 0), (.int .i64 0)]) [] [])]) (.seq (.sts [(.eff [] (some 11) (.call 58) [(.t 0), (.c (.int .i64 15))] []),
    (.chk [] (.c1 (.ext 0) (.t 11))),
    (.chk [] (.c1 (.ext 1) (.t 11))),
    (.eff [] (some 5) (.alloc 27 #[(.int .i64 0), (.int .i64 0), (.int .i64 0)]) [] []),
    (.set 4 (.o1 (.ext 0) (.t 11))),
    (.eff [] none (.store 3) [(.t 5), (.o1 (.ext 1) (.t 11))] [])]) (.seq (.seq (.sts [(.chk [] (.c1 (.fld 0) (.t 5))),
    (.chk [] (.c1 .ld1 (.o1 (.fld 0) (.t 5)))),
    (.chk [] (.c2 (.bin .neq) (.o1 .ld1 (.o1 (.fld 0) (.t 5))) (.c (.int .i64 0)))),
    (.set 16 (.o2 (.bin .neq) (.o1 .ld1 (.o1 (.fld 0) (.t 5))) (.c (.int .i64 0))))]) (.cond 16 (.seq (.sts [(.chk [] (.c1 (.ldn 3) (.t 5))),
    (.set 2 (.c (.slice none 0 0))),
    (.set 17 (.o1 (.ldn 3) (.t 5))),
    (.eff [] none (.store 3) [(.t 3), (.t 17)] [])]) .ret) .skip)) (.seq (.sts [(.set 6 (.c (.slice none 0 0)))]) (.seq (.seq (.sts [(.eff [] (some 19) (.call 63) [(.t 4)] []),
    (.chk [] (.c1 .len (.t 19))),
    (.set 20 (.o1 .len (.t 19))),
    (.set 21 (.c (.int .i64 0)))]) (.block 0 (.loop rpFacts_L1))) (.seq (.sts [(.chk [] (.cb 3 [])),
    (.set 2 (.t 6)),
    (.eff [] none (.store 3) [(.t 3), (.c (.agg #[(.int .i64 0), (.int .i64 0), (.int .i64 0)]))] [])]) .ret))))))
def rpFacts_E : Res := [(none, (.t 2)), ((some (.c1 (.ldn 3) (.t 3))), (.o1 (.ldn 3) (.t 3)))]
theorem rpFacts_C : Tryd.f23.body.bind (comp Tryd.prog rpFacts_M Tryd.f23.ntmps) = some rpFacts_S := by kernel_rfl
theorem rpFacts_R : resE Tryd.prog rpFacts_M Tryd.f23.results.toList = some rpFacts_E := by kernel_rfl
theorem rpFacts_H (G : Ctr) (hG : GOk Tryd.prog G) (a0 : Value) {h : H} {K : Value → H → Prop} {KP : List PanicEntry → H → Prop} (Hw : wpS G rpFacts_S (retQ rpFacts_E (callK K KP)) (envOf 0 [a0] env0) h) : HCX Tryd.prog 23 [a0] h K KP :=
  .inl ⟨by kernel_rfl, hc_of mixed hG Tryd.func23 rpFacts_C rpFacts_R (of_decide_eq_true (by kernel_rfl)) Hw⟩
def rpFact_M : Nat → Bool := fun i => Nat.testBit 1006764797 i
def rpFact_L1 : S :=
  (.seq (.sts [(.chk [] (.c2 (.bin .lss) (.t 28) (.t 27))),
    (.set 29 (.o2 (.bin .lss) (.t 28) (.t 27)))]) (.seq (.cond 29 .skip (.exit 0)) (.seq (.block 1 (.seq (.sts [(.chk [] (.c2 (.idxA 4) (.t 26) (.t 28))),
    (.chk [] (.c1 (.ldn 4) (.o2 (.idxA 4) (.t 26) (.t 28)))),
    (.set 31 (.o1 (.ldn 4) (.o2 (.idxA 4) (.t 26) (.t 28)))),
    (.eff [] (some 9) (.alloc 87 #[(.int .i64 0), (.int .i64 0), (str []), (.int .i64 0)]) [] []),
    (.eff [] none (.store 4) [(.t 9), (.t 31)] [])]) (.sts [(.chk [] (.c1 (.fld 1) (.t 7))),
    (.chk [] (.c1 .ld1 (.o1 (.fld 1) (.t 7)))),
    (.chk [] (.c1 (.fld 0) (.t 9))),
    (.chk [] (.c1 .ld1 (.o1 (.fld 0) (.t 9)))),
    (.chk [] (.c1 (.fld 1) (.t 9))),
    (.chk [] (.c1 .ld1 (.o1 (.fld 1) (.t 9)))),
    (.chk [] (.c1 (.fld 2) (.t 9))),
    (.chk [] (.c1 .ld1 (.o1 (.fld 2) (.t 9)))),
    (.chk [] (.cb 3 [(0, (1, (.o1 .ld1 (.o1 (.fld 0) (.t 9))))), (1, (1, (.o1 .ld1 (.o1 (.fld 1) (.t 9))))), (2, (1, (.o1 .ld1 (.o1 (.fld 2) (.t 9)))))])),
    (.set 40 (.o2 (.put 2 1) (.o2 (.put 1 1) (.o2 (.put 0 1) (.c (.agg #[(.int .i64 0), (.int .i64 0), (str [])])) (.o1 .ld1 (.o1 (.fld 0) (.t 9)))) (.o1 .ld1 (.o1 (.fld 1) (.t 9)))) (.o1 .ld1 (.o1 (.fld 2) (.t 9))))),
    (.set 33 (.o1 .ld1 (.o1 (.fld 1) (.t 7)))),
    (.eff [] (some 41) (.bsl 115 3 1 [(.int .i64 0), (.int .i64 0), (str [])] [0]) [(.t 40)] []),
    (.eff [] (some 42) (.app 115 3 32 [(.int .i64 0), (.int .i64 0), (str [])]) [(.t 33), (.t 41)] []),
    (.chk [] (.c1 (.fld 1) (.t 7))),
    (.eff [] none (.store 1) [(.o1 (.fld 1) (.t 7)), (.t 42)] [])]))) (.sts [(.chk [] (.c2 (.bin .add) (.t 28) (.c (.int .i64 1)))),
    (.set 44 (.o2 (.bin .add) (.t 28) (.c (.int .i64 1)))),
    (.set 28 (.t 44))]))))
def rpFact_S : S :=
  (.seq (.sts [(.eff [] (some 2) (.alloc 24 #[(str []), (.slice none 0 0)]) [] []),
    (.eff [] (some 3) (.alloc 27 #[(.int .i64 0), (.int .i64 0), (.int .i64 0)]) [] [])]) (.seq (.sts [(.eff [] (some 12) (.call 58) [(.t 0), (.c (.int .i64 20))] []),
    (.chk [] (.c1 (.ext 0) (.t 12))),
    (.chk [] (.c1 (.ext 1) (.t 12))),
    (.eff [] (some 5) (.alloc 27 #[(.int .i64 0), (.int .i64 0), (.int .i64 0)]) [] []),
    (.set 4 (.o1 (.ext 0) (.t 12))),
    (.eff [] none (.store 3) [(.t 5), (.o1 (.ext 1) (.t 12))] [])]) (.seq (.seq (.sts [(.chk [] (.c1 (.fld 0) (.t 5))),
    (.chk [] (.c1 .ld1 (.o1 (.fld 0) (.t 5)))),
    (.chk [] (.c2 (.bin .neq) (.o1 .ld1 (.o1 (.fld 0) (.t 5))) (.c (.int .i64 0)))),
    (.set 17 (.o2 (.bin .neq) (.o1 .ld1 (.o1 (.fld 0) (.t 5))) (.c (.int .i64 0))))]) (.cond 17 (.seq (.sts [(.chk [] (.cb 2 [])),
    (.chk [] (.c1 (.ldn 3) (.t 5))),
    (.set 19 (.o1 (.ldn 3) (.t 5))),
    (.eff [] none (.store 2) [(.t 2), (.c (.agg #[(str []), (.slice none 0 0)]))] [([], ((.t 5), (some 3)))]),
    (.eff [] none (.store 3) [(.t 3), (.t 19)] [])]) .ret) .skip)) (.seq (.sts [(.eff [] (some 21) (.call 59) [(.t 4)] []),
    (.eff [] (some 6) (.alloc 52 #[(str []), (.slice none 0 0), (.int .i64 0)]) [] []),
    (.eff [] none (.store 3) [(.t 6), (.t 21)] [])]) (.seq (.sts [(.chk [] (.c1 (.fld 0) (.t 6))),
    (.chk [] (.c1 .ld1 (.o1 (.fld 0) (.t 6)))),
    (.chk [] (.cb 2 [(0, (1, (.o1 .ld1 (.o1 (.fld 0) (.t 6)))))])),
    (.set 24 (.o2 (.put 0 1) (.c (.agg #[(str []), (.slice none 0 0)])) (.o1 .ld1 (.o1 (.fld 0) (.t 6))))),
    (.eff [] (some 7) (.alloc 24 #[(str []), (.slice none 0 0)]) [] []),
    (.eff [] none (.store 2) [(.t 7), (.t 24)] [])]) (.seq (.seq (.sts [(.chk [] (.c1 (.fld 1) (.t 6))),
    (.chk [] (.c1 .ld1 (.o1 (.fld 1) (.t 6)))),
    (.set 26 (.o1 .ld1 (.o1 (.fld 1) (.t 6)))),
    (.chk [] (.c1 .len (.t 26))),
    (.set 27 (.o1 .len (.t 26))),
    (.set 28 (.c (.int .i64 0)))]) (.block 0 (.loop rpFact_L1))) (.seq (.sts [(.chk [] (.c1 (.ldn 2) (.t 7))),
    (.chk [] (.cb 3 [])),
    (.set 45 (.o1 (.ldn 2) (.t 7))),
    (.eff [] none (.store 2) [(.t 2), (.t 45)] []),
    (.eff [] none (.store 3) [(.t 3), (.c (.agg #[(.int .i64 0), (.int .i64 0), (.int .i64 0)]))] [])]) .ret)))))))
def rpFact_E : Res := [((some (.c1 (.ldn 2) (.t 2))), (.o1 (.ldn 2) (.t 2))), ((some (.c1 (.ldn 3) (.t 3))), (.o1 (.ldn 3) (.t 3)))]
theorem rpFact_C : Tryd.f20.body.bind (comp Tryd.prog rpFact_M Tryd.f20.ntmps) = some rpFact_S := by kernel_rfl
theorem rpFact_R : resE Tryd.prog rpFact_M Tryd.f20.results.toList = some rpFact_E := by kernel_rfl
theorem rpFact_H (G : Ctr) (hG : GOk Tryd.prog G) (a0 : Value) {h : H} {K : Value → H → Prop} {KP : List PanicEntry → H → Prop} (Hw : wpS G rpFact_S (retQ rpFact_E (callK K KP)) (envOf 0 [a0] env0) h) : HCX Tryd.prog 20 [a0] h K KP :=
  .inl ⟨by kernel_rfl, hc_of mixed hG Tryd.func20 rpFact_C rpFact_R (of_decide_eq_true (by kernel_rfl)) Hw⟩
end Go.Proofs.YtmnfhmbmifompaaDoor
