/- The small statements of functions of the program, as the closed computation gives them (written by a program of ours; checked by the kernel below). -/
import Derived.Test.YtmnfhmbmifompaaGreatDoorEvB
import Derived.Test.YtmnfhmbmifompaaGreatDoorProg
import Derived.KernelRfl
import Derived.Test.YtmnfhmbmifompaaGreatDoorPsS
namespace Go.Proofs.YtmnfhmbmifompaaGreatDoor
open Go Go.Ev
def rpMoveHead_M : Nat → Bool := fun i => Nat.testBit 144186110871343155 i
def rpMoveHead_S : S :=
  (.seq (.sts [(.set 4 (.c (.int .i64 0)))]) (.seq (.block 0 (.seq (.sts [(.chk [] (.c2 (.bin .eql) (.t 0) (.c (.int .i64 0)))),
    (.chk [((.o2 (.bin .eql) (.t 0) (.c (.int .i64 0))), true)] (.c2 (.bin .eql) (.t 1) (.c (.int .i64 1)))),
    (.chk [] (.c3 .pick (.o2 (.bin .eql) (.t 0) (.c (.int .i64 0))) (.o2 (.bin .eql) (.t 1) (.c (.int .i64 1))) (.c (.bool false)))),
    (.set 5 (.o3 .pick (.o2 (.bin .eql) (.t 0) (.c (.int .i64 0))) (.o2 (.bin .eql) (.t 1) (.c (.int .i64 1))) (.c (.bool false))))]) (.cond 5 (.seq (.sts [(.set 4 (.c (.int .i64 1)))]) .ret) (.seq (.sts [(.chk [] (.c2 (.bin .eql) (.t 0) (.c (.int .i64 0)))),
    (.chk [((.o2 (.bin .eql) (.t 0) (.c (.int .i64 0))), true)] (.c2 (.bin .eql) (.t 1) (.c (.int .i64 0)))),
    (.chk [] (.c3 .pick (.o2 (.bin .eql) (.t 0) (.c (.int .i64 0))) (.o2 (.bin .eql) (.t 1) (.c (.int .i64 0))) (.c (.bool false)))),
    (.set 12 (.o3 .pick (.o2 (.bin .eql) (.t 0) (.c (.int .i64 0))) (.o2 (.bin .eql) (.t 1) (.c (.int .i64 0))) (.c (.bool false))))]) (.cond 12 (.seq (.sts [(.set 4 (.c (.int .i64 26)))]) .ret) (.seq (.seq (.sts [(.chk [] (.c2 (.bin .eql) (.t 0) (.c (.int .i64 1)))),
    (.chk [((.o2 (.bin .eql) (.t 0) (.c (.int .i64 1))), true)] (.c2 (.bin .eql) (.t 1) (.c (.int .i64 5)))),
    (.chk [] (.c3 .pick (.o2 (.bin .eql) (.t 0) (.c (.int .i64 1))) (.o2 (.bin .eql) (.t 1) (.c (.int .i64 5))) (.c (.bool false)))),
    (.set 19 (.o3 .pick (.o2 (.bin .eql) (.t 0) (.c (.int .i64 1))) (.o2 (.bin .eql) (.t 1) (.c (.int .i64 5))) (.c (.bool false))))]) (.cond 19 .skip (.sts [(.chk [] (.c2 (.bin .eql) (.t 0) (.c (.int .i64 3)))),
    (.chk [((.o2 (.bin .eql) (.t 0) (.c (.int .i64 3))), true)] (.c2 (.bin .eql) (.t 1) (.c (.int .i64 7)))),
    (.chk [] (.c3 .pick (.o2 (.bin .eql) (.t 0) (.c (.int .i64 3))) (.o2 (.bin .eql) (.t 1) (.c (.int .i64 7))) (.c (.bool false)))),
    (.set 19 (.o3 .pick (.o2 (.bin .eql) (.t 0) (.c (.int .i64 3))) (.o2 (.bin .eql) (.t 1) (.c (.int .i64 7))) (.c (.bool false))))]))) (.cond 19 (.seq (.sts [(.set 4 (.c (.int .i64 2)))]) .ret) (.seq (.sts [(.chk [] (.c2 (.bin .eql) (.t 0) (.c (.int .i64 2)))),
    (.eff [((.o2 (.bin .eql) (.t 0) (.c (.int .i64 2))), true)] (some 37) (.call 36) [(.t 1)] []),
    (.chk [] (.c3 .pick (.o2 (.bin .eql) (.t 0) (.c (.int .i64 2))) (.t 37) (.c (.bool false)))),
    (.set 32 (.o3 .pick (.o2 (.bin .eql) (.t 0) (.c (.int .i64 2))) (.t 37) (.c (.bool false))))]) (.cond 32 (.seq (.sts [(.set 4 (.c (.int .i64 3)))]) .ret) (.seq (.sts [(.chk [] (.c2 (.bin .eql) (.t 0) (.c (.int .i64 3)))),
    (.chk [((.o2 (.bin .eql) (.t 0) (.c (.int .i64 3))), true)] (.c2 (.bin .eql) (.t 1) (.c (.int .i64 6)))),
    (.chk [] (.c3 .pick (.o2 (.bin .eql) (.t 0) (.c (.int .i64 3))) (.o2 (.bin .eql) (.t 1) (.c (.int .i64 6))) (.c (.bool false)))),
    (.set 39 (.o3 .pick (.o2 (.bin .eql) (.t 0) (.c (.int .i64 3))) (.o2 (.bin .eql) (.t 1) (.c (.int .i64 6))) (.c (.bool false))))]) (.cond 39 (.seq (.sts [(.set 4 (.c (.int .i64 4)))]) .ret) (.seq (.sts [(.chk [] (.c2 (.bin .eql) (.t 0) (.c (.int .i64 1)))),
    (.chk [((.o2 (.bin .eql) (.t 0) (.c (.int .i64 1))), false)] (.c2 (.bin .eql) (.t 0) (.c (.int .i64 4)))),
    (.chk [] (.c3 .pick (.o2 (.bin .eql) (.t 0) (.c (.int .i64 1))) (.c (.bool true)) (.o2 (.bin .eql) (.t 0) (.c (.int .i64 4))))),
    (.chk [((.o3 .pick (.o2 (.bin .eql) (.t 0) (.c (.int .i64 1))) (.c (.bool true)) (.o2 (.bin .eql) (.t 0) (.c (.int .i64 4)))), true)] (.c2 (.bin .eql) (.t 1) (.c (.int .i64 8)))),
    (.chk [] (.c3 .pick (.o3 .pick (.o2 (.bin .eql) (.t 0) (.c (.int .i64 1))) (.c (.bool true)) (.o2 (.bin .eql) (.t 0) (.c (.int .i64 4)))) (.o2 (.bin .eql) (.t 1) (.c (.int .i64 8))) (.c (.bool false)))),
    (.set 46 (.o3 .pick (.o3 .pick (.o2 (.bin .eql) (.t 0) (.c (.int .i64 1))) (.c (.bool true)) (.o2 (.bin .eql) (.t 0) (.c (.int .i64 4)))) (.o2 (.bin .eql) (.t 1) (.c (.int .i64 8))) (.c (.bool false))))]) (.cond 46 (.seq (.sts [(.set 4 (.c (.int .i64 0)))]) .ret) (.seq (.sts [(.chk [] (.c2 (.bin .eql) (.t 0) (.c (.int .i64 1)))),
    (.chk [((.o2 (.bin .eql) (.t 0) (.c (.int .i64 1))), false)] (.c2 (.bin .eql) (.t 0) (.c (.int .i64 4)))),
    (.chk [] (.c3 .pick (.o2 (.bin .eql) (.t 0) (.c (.int .i64 1))) (.c (.bool true)) (.o2 (.bin .eql) (.t 0) (.c (.int .i64 4))))),
    (.chk [((.o3 .pick (.o2 (.bin .eql) (.t 0) (.c (.int .i64 1))) (.c (.bool true)) (.o2 (.bin .eql) (.t 0) (.c (.int .i64 4)))), true)] (.c2 (.bin .eql) (.t 1) (.c (.int .i64 9)))),
    (.chk [] (.c3 .pick (.o3 .pick (.o2 (.bin .eql) (.t 0) (.c (.int .i64 1))) (.c (.bool true)) (.o2 (.bin .eql) (.t 0) (.c (.int .i64 4)))) (.o2 (.bin .eql) (.t 1) (.c (.int .i64 9))) (.c (.bool false)))),
    (.set 57 (.o3 .pick (.o3 .pick (.o2 (.bin .eql) (.t 0) (.c (.int .i64 1))) (.c (.bool true)) (.o2 (.bin .eql) (.t 0) (.c (.int .i64 4)))) (.o2 (.bin .eql) (.t 1) (.c (.int .i64 9))) (.c (.bool false))))]) (.cond 57 (.seq (.sts [(.set 4 (.c (.int .i64 5)))]) .ret) .skip))))))))))))))) (.seq (.sts [(.set 4 (.c (.int .i64 (-1))))]) .ret)))
def rpMoveHead_E : Res := [(none, (.t 4))]
theorem rpMoveHead_C : Tryz.f46.body.bind (comp Tryz.prog rpMoveHead_M Tryz.f46.ntmps) = some rpMoveHead_S := by kernel_rfl
theorem rpMoveHead_R : resE Tryz.prog rpMoveHead_M Tryz.f46.results.toList = some rpMoveHead_E := by kernel_rfl
theorem rpMoveHead_H (G : Ctr) (hG : GOk Tryz.prog G) (a0 : Value) (a1 : Value) {h : H} {K : Value → H → Prop} {KP : List PanicEntry → H → Prop} (Hw : wpS G rpMoveHead_S (retQ rpMoveHead_E (callK K KP)) (envOf 0 [a0, a1] env0) h) : HCX Tryz.prog 46 [a0, a1] h K KP :=
  .inl ⟨by kernel_rfl, hc_of mixed hG Tryz.func46 rpMoveHead_C rpMoveHead_R (of_decide_eq_true (by kernel_rfl)) Hw⟩
def rpMoveFact_M : Nat → Bool := fun i => Nat.testBit 2477098523491282114855833651 i
def rpMoveFact_S : S :=
  (.seq (.sts [(.set 4 (.c (.int .i64 0)))]) (.seq (.block 0 (.seq (.sts [(.chk [] (.c2 (.bin .eql) (.t 0) (.c (.int .i64 15)))),
    (.chk [((.o2 (.bin .eql) (.t 0) (.c (.int .i64 15))), true)] (.c2 (.bin .eql) (.t 1) (.c (.int .i64 1)))),
    (.chk [] (.c3 .pick (.o2 (.bin .eql) (.t 0) (.c (.int .i64 15))) (.o2 (.bin .eql) (.t 1) (.c (.int .i64 1))) (.c (.bool false)))),
    (.set 5 (.o3 .pick (.o2 (.bin .eql) (.t 0) (.c (.int .i64 15))) (.o2 (.bin .eql) (.t 1) (.c (.int .i64 1))) (.c (.bool false))))]) (.cond 5 (.seq (.sts [(.set 4 (.c (.int .i64 16)))]) .ret) (.seq (.sts [(.chk [] (.c2 (.bin .eql) (.t 0) (.c (.int .i64 15)))),
    (.chk [((.o2 (.bin .eql) (.t 0) (.c (.int .i64 15))), true)] (.c2 (.bin .eql) (.t 1) (.c (.int .i64 0)))),
    (.chk [] (.c3 .pick (.o2 (.bin .eql) (.t 0) (.c (.int .i64 15))) (.o2 (.bin .eql) (.t 1) (.c (.int .i64 0))) (.c (.bool false)))),
    (.set 12 (.o3 .pick (.o2 (.bin .eql) (.t 0) (.c (.int .i64 15))) (.o2 (.bin .eql) (.t 1) (.c (.int .i64 0))) (.c (.bool false))))]) (.cond 12 (.seq (.sts [(.set 4 (.c (.int .i64 26)))]) .ret) (.seq (.sts [(.chk [] (.c2 (.bin .eql) (.t 0) (.c (.int .i64 20)))),
    (.chk [((.o2 (.bin .eql) (.t 0) (.c (.int .i64 20))), true)] (.c2 (.bin .eql) (.t 1) (.c (.int .i64 1)))),
    (.chk [] (.c3 .pick (.o2 (.bin .eql) (.t 0) (.c (.int .i64 20))) (.o2 (.bin .eql) (.t 1) (.c (.int .i64 1))) (.c (.bool false)))),
    (.set 19 (.o3 .pick (.o2 (.bin .eql) (.t 0) (.c (.int .i64 20))) (.o2 (.bin .eql) (.t 1) (.c (.int .i64 1))) (.c (.bool false))))]) (.cond 19 (.seq (.sts [(.set 4 (.c (.int .i64 21)))]) .ret) (.seq (.seq (.sts [(.chk [] (.c2 (.bin .eql) (.t 0) (.c (.int .i64 16)))),
    (.chk [((.o2 (.bin .eql) (.t 0) (.c (.int .i64 16))), true)] (.c2 (.bin .eql) (.t 1) (.c (.int .i64 5)))),
    (.chk [] (.c3 .pick (.o2 (.bin .eql) (.t 0) (.c (.int .i64 16))) (.o2 (.bin .eql) (.t 1) (.c (.int .i64 5))) (.c (.bool false)))),
    (.set 26 (.o3 .pick (.o2 (.bin .eql) (.t 0) (.c (.int .i64 16))) (.o2 (.bin .eql) (.t 1) (.c (.int .i64 5))) (.c (.bool false))))]) (.cond 26 .skip (.sts [(.chk [] (.c2 (.bin .eql) (.t 0) (.c (.int .i64 18)))),
    (.chk [((.o2 (.bin .eql) (.t 0) (.c (.int .i64 18))), true)] (.c2 (.bin .eql) (.t 1) (.c (.int .i64 7)))),
    (.chk [] (.c3 .pick (.o2 (.bin .eql) (.t 0) (.c (.int .i64 18))) (.o2 (.bin .eql) (.t 1) (.c (.int .i64 7))) (.c (.bool false)))),
    (.set 26 (.o3 .pick (.o2 (.bin .eql) (.t 0) (.c (.int .i64 18))) (.o2 (.bin .eql) (.t 1) (.c (.int .i64 7))) (.c (.bool false))))]))) (.cond 26 (.seq (.sts [(.set 4 (.c (.int .i64 17)))]) .ret) (.seq (.seq (.sts [(.chk [] (.c2 (.bin .eql) (.t 0) (.c (.int .i64 21)))),
    (.chk [((.o2 (.bin .eql) (.t 0) (.c (.int .i64 21))), true)] (.c2 (.bin .eql) (.t 1) (.c (.int .i64 5)))),
    (.chk [] (.c3 .pick (.o2 (.bin .eql) (.t 0) (.c (.int .i64 21))) (.o2 (.bin .eql) (.t 1) (.c (.int .i64 5))) (.c (.bool false)))),
    (.set 39 (.o3 .pick (.o2 (.bin .eql) (.t 0) (.c (.int .i64 21))) (.o2 (.bin .eql) (.t 1) (.c (.int .i64 5))) (.c (.bool false))))]) (.cond 39 .skip (.sts [(.chk [] (.c2 (.bin .eql) (.t 0) (.c (.int .i64 23)))),
    (.chk [((.o2 (.bin .eql) (.t 0) (.c (.int .i64 23))), true)] (.c2 (.bin .eql) (.t 1) (.c (.int .i64 7)))),
    (.chk [] (.c3 .pick (.o2 (.bin .eql) (.t 0) (.c (.int .i64 23))) (.o2 (.bin .eql) (.t 1) (.c (.int .i64 7))) (.c (.bool false)))),
    (.set 39 (.o3 .pick (.o2 (.bin .eql) (.t 0) (.c (.int .i64 23))) (.o2 (.bin .eql) (.t 1) (.c (.int .i64 7))) (.c (.bool false))))]))) (.cond 39 (.seq (.sts [(.set 4 (.c (.int .i64 22)))]) .ret) (.seq (.sts [(.chk [] (.c2 (.bin .eql) (.t 0) (.c (.int .i64 17)))),
    (.eff [((.o2 (.bin .eql) (.t 0) (.c (.int .i64 17))), true)] (some 57) (.call 60) [(.t 1)] []),
    (.chk [] (.c3 .pick (.o2 (.bin .eql) (.t 0) (.c (.int .i64 17))) (.t 57) (.c (.bool false)))),
    (.set 52 (.o3 .pick (.o2 (.bin .eql) (.t 0) (.c (.int .i64 17))) (.t 57) (.c (.bool false))))]) (.cond 52 (.seq (.sts [(.set 4 (.c (.int .i64 18)))]) .ret) (.seq (.sts [(.chk [] (.c2 (.bin .eql) (.t 0) (.c (.int .i64 22)))),
    (.eff [((.o2 (.bin .eql) (.t 0) (.c (.int .i64 22))), true)] (some 64) (.call 60) [(.t 1)] []),
    (.chk [] (.c3 .pick (.o2 (.bin .eql) (.t 0) (.c (.int .i64 22))) (.t 64) (.c (.bool false)))),
    (.set 59 (.o3 .pick (.o2 (.bin .eql) (.t 0) (.c (.int .i64 22))) (.t 64) (.c (.bool false))))]) (.cond 59 (.seq (.sts [(.set 4 (.c (.int .i64 23)))]) .ret) (.seq (.sts [(.chk [] (.c2 (.bin .eql) (.t 0) (.c (.int .i64 18)))),
    (.chk [((.o2 (.bin .eql) (.t 0) (.c (.int .i64 18))), true)] (.c2 (.bin .eql) (.t 1) (.c (.int .i64 6)))),
    (.chk [] (.c3 .pick (.o2 (.bin .eql) (.t 0) (.c (.int .i64 18))) (.o2 (.bin .eql) (.t 1) (.c (.int .i64 6))) (.c (.bool false)))),
    (.set 66 (.o3 .pick (.o2 (.bin .eql) (.t 0) (.c (.int .i64 18))) (.o2 (.bin .eql) (.t 1) (.c (.int .i64 6))) (.c (.bool false))))]) (.cond 66 (.seq (.sts [(.set 4 (.c (.int .i64 19)))]) .ret) (.seq (.sts [(.chk [] (.c2 (.bin .eql) (.t 0) (.c (.int .i64 23)))),
    (.chk [((.o2 (.bin .eql) (.t 0) (.c (.int .i64 23))), true)] (.c2 (.bin .eql) (.t 1) (.c (.int .i64 6)))),
    (.chk [] (.c3 .pick (.o2 (.bin .eql) (.t 0) (.c (.int .i64 23))) (.o2 (.bin .eql) (.t 1) (.c (.int .i64 6))) (.c (.bool false)))),
    (.set 73 (.o3 .pick (.o2 (.bin .eql) (.t 0) (.c (.int .i64 23))) (.o2 (.bin .eql) (.t 1) (.c (.int .i64 6))) (.c (.bool false))))]) (.cond 73 (.seq (.sts [(.set 4 (.c (.int .i64 24)))]) .ret) (.seq (.sts [(.chk [] (.c2 (.bin .eql) (.t 0) (.c (.int .i64 16)))),
    (.chk [((.o2 (.bin .eql) (.t 0) (.c (.int .i64 16))), false)] (.c2 (.bin .eql) (.t 0) (.c (.int .i64 19)))),
    (.chk [] (.c3 .pick (.o2 (.bin .eql) (.t 0) (.c (.int .i64 16))) (.c (.bool true)) (.o2 (.bin .eql) (.t 0) (.c (.int .i64 19))))),
    (.chk [((.o3 .pick (.o2 (.bin .eql) (.t 0) (.c (.int .i64 16))) (.c (.bool true)) (.o2 (.bin .eql) (.t 0) (.c (.int .i64 19)))), true)] (.c2 (.bin .eql) (.t 1) (.c (.int .i64 8)))),
    (.chk [] (.c3 .pick (.o3 .pick (.o2 (.bin .eql) (.t 0) (.c (.int .i64 16))) (.c (.bool true)) (.o2 (.bin .eql) (.t 0) (.c (.int .i64 19)))) (.o2 (.bin .eql) (.t 1) (.c (.int .i64 8))) (.c (.bool false)))),
    (.set 80 (.o3 .pick (.o3 .pick (.o2 (.bin .eql) (.t 0) (.c (.int .i64 16))) (.c (.bool true)) (.o2 (.bin .eql) (.t 0) (.c (.int .i64 19)))) (.o2 (.bin .eql) (.t 1) (.c (.int .i64 8))) (.c (.bool false))))]) (.cond 80 (.seq (.sts [(.set 4 (.c (.int .i64 15)))]) .ret) (.seq (.sts [(.chk [] (.c2 (.bin .eql) (.t 0) (.c (.int .i64 21)))),
    (.chk [((.o2 (.bin .eql) (.t 0) (.c (.int .i64 21))), false)] (.c2 (.bin .eql) (.t 0) (.c (.int .i64 24)))),
    (.chk [] (.c3 .pick (.o2 (.bin .eql) (.t 0) (.c (.int .i64 21))) (.c (.bool true)) (.o2 (.bin .eql) (.t 0) (.c (.int .i64 24))))),
    (.chk [((.o3 .pick (.o2 (.bin .eql) (.t 0) (.c (.int .i64 21))) (.c (.bool true)) (.o2 (.bin .eql) (.t 0) (.c (.int .i64 24)))), true)] (.c2 (.bin .eql) (.t 1) (.c (.int .i64 0)))),
    (.chk [] (.c3 .pick (.o3 .pick (.o2 (.bin .eql) (.t 0) (.c (.int .i64 21))) (.c (.bool true)) (.o2 (.bin .eql) (.t 0) (.c (.int .i64 24)))) (.o2 (.bin .eql) (.t 1) (.c (.int .i64 0))) (.c (.bool false)))),
    (.set 91 (.o3 .pick (.o3 .pick (.o2 (.bin .eql) (.t 0) (.c (.int .i64 21))) (.c (.bool true)) (.o2 (.bin .eql) (.t 0) (.c (.int .i64 24)))) (.o2 (.bin .eql) (.t 1) (.c (.int .i64 0))) (.c (.bool false))))]) (.cond 91 (.seq (.sts [(.set 4 (.c (.int .i64 26)))]) .ret) .skip))))))))))))))))))))))) (.seq (.sts [(.set 4 (.c (.int .i64 (-1))))]) .ret)))
def rpMoveFact_E : Res := [(none, (.t 4))]
theorem rpMoveFact_C : Tryz.f47.body.bind (comp Tryz.prog rpMoveFact_M Tryz.f47.ntmps) = some rpMoveFact_S := by kernel_rfl
theorem rpMoveFact_R : resE Tryz.prog rpMoveFact_M Tryz.f47.results.toList = some rpMoveFact_E := by kernel_rfl
theorem rpMoveFact_H (G : Ctr) (hG : GOk Tryz.prog G) (a0 : Value) (a1 : Value) {h : H} {K : Value → H → Prop} {KP : List PanicEntry → H → Prop} (Hw : wpS G rpMoveFact_S (retQ rpMoveFact_E (callK K KP)) (envOf 0 [a0, a1] env0) h) : HCX Tryz.prog 47 [a0, a1] h K KP :=
  .inl ⟨by kernel_rfl, hc_of mixed hG Tryz.func47 rpMoveFact_C rpMoveFact_R (of_decide_eq_true (by kernel_rfl)) Hw⟩
def rpMoveBody_M : Nat → Bool := fun i => Nat.testBit 26620682099911473780999246069959 i
def rpMoveBody_S : S :=
  (.seq (.sts [(.set 6 (.c (.int .i64 0)))]) (.seq (.block 0 (.seq (.sts [(.chk [] (.c2 (.bin .eql) (.t 0) (.c (.int .i64 5)))),
    (.chk [((.o2 (.bin .eql) (.t 0) (.c (.int .i64 5))), true)] (.c2 (.bin .eql) (.t 1) (.c (.int .i64 1)))),
    (.chk [] (.c3 .pick (.o2 (.bin .eql) (.t 0) (.c (.int .i64 5))) (.o2 (.bin .eql) (.t 1) (.c (.int .i64 1))) (.c (.bool false)))),
    (.set 7 (.o3 .pick (.o2 (.bin .eql) (.t 0) (.c (.int .i64 5))) (.o2 (.bin .eql) (.t 1) (.c (.int .i64 1))) (.c (.bool false))))]) (.cond 7 (.seq (.sts [(.set 6 (.c (.int .i64 6)))]) .ret) (.seq (.sts [(.chk [] (.c2 (.bin .eql) (.t 0) (.c (.int .i64 5)))),
    (.chk [((.o2 (.bin .eql) (.t 0) (.c (.int .i64 5))), true)] (.c2 (.bin .eql) (.t 1) (.c (.int .i64 10)))),
    (.chk [] (.c3 .pick (.o2 (.bin .eql) (.t 0) (.c (.int .i64 5))) (.o2 (.bin .eql) (.t 1) (.c (.int .i64 10))) (.c (.bool false)))),
    (.set 14 (.o3 .pick (.o2 (.bin .eql) (.t 0) (.c (.int .i64 5))) (.o2 (.bin .eql) (.t 1) (.c (.int .i64 10))) (.c (.bool false))))]) (.cond 14 (.seq (.sts [(.set 6 (.c (.int .i64 7)))]) .ret) (.seq (.sts [(.chk [] (.c2 (.bin .eql) (.t 0) (.c (.int .i64 5)))),
    (.eff [((.o2 (.bin .eql) (.t 0) (.c (.int .i64 5))), true)] (some 26) (.call 36) [(.t 1)] []),
    (.chk [] (.c3 .pick (.o2 (.bin .eql) (.t 0) (.c (.int .i64 5))) (.t 26) (.c (.bool false)))),
    (.set 21 (.o3 .pick (.o2 (.bin .eql) (.t 0) (.c (.int .i64 5))) (.t 26) (.c (.bool false))))]) (.cond 21 (.seq (.sts [(.set 6 (.c (.int .i64 8)))]) .ret) (.seq (.sts [(.chk [] (.c2 (.bin .eql) (.t 0) (.c (.int .i64 6)))),
    (.chk [((.o2 (.bin .eql) (.t 0) (.c (.int .i64 6))), false)] (.c2 (.bin .eql) (.t 0) (.c (.int .i64 8)))),
    (.chk [] (.c3 .pick (.o2 (.bin .eql) (.t 0) (.c (.int .i64 6))) (.c (.bool true)) (.o2 (.bin .eql) (.t 0) (.c (.int .i64 8))))),
    (.chk [((.o3 .pick (.o2 (.bin .eql) (.t 0) (.c (.int .i64 6))) (.c (.bool true)) (.o2 (.bin .eql) (.t 0) (.c (.int .i64 8)))), true)] (.c2 (.bin .eql) (.t 1) (.c (.int .i64 11)))),
    (.chk [] (.c3 .pick (.o3 .pick (.o2 (.bin .eql) (.t 0) (.c (.int .i64 6))) (.c (.bool true)) (.o2 (.bin .eql) (.t 0) (.c (.int .i64 8)))) (.o2 (.bin .eql) (.t 1) (.c (.int .i64 11))) (.c (.bool false)))),
    (.set 28 (.o3 .pick (.o3 .pick (.o2 (.bin .eql) (.t 0) (.c (.int .i64 6))) (.c (.bool true)) (.o2 (.bin .eql) (.t 0) (.c (.int .i64 8)))) (.o2 (.bin .eql) (.t 1) (.c (.int .i64 11))) (.c (.bool false))))]) (.cond 28 (.seq (.sts [(.set 6 (.c (.int .i64 11)))]) .ret) (.seq (.sts [(.chk [] (.c2 (.bin .eql) (.t 0) (.c (.int .i64 7)))),
    (.chk [((.o2 (.bin .eql) (.t 0) (.c (.int .i64 7))), true)] (.c2 (.bin .eql) (.t 1) (.c (.int .i64 1)))),
    (.chk [] (.c3 .pick (.o2 (.bin .eql) (.t 0) (.c (.int .i64 7))) (.o2 (.bin .eql) (.t 1) (.c (.int .i64 1))) (.c (.bool false)))),
    (.set 39 (.o3 .pick (.o2 (.bin .eql) (.t 0) (.c (.int .i64 7))) (.o2 (.bin .eql) (.t 1) (.c (.int .i64 1))) (.c (.bool false))))]) (.cond 39 (.seq (.sts [(.set 6 (.c (.int .i64 12)))]) .ret) (.seq (.seq (.sts [(.chk [] (.c2 (.bin .eql) (.t 0) (.c (.int .i64 6)))),
    (.chk [((.o2 (.bin .eql) (.t 0) (.c (.int .i64 6))), false)] (.c2 (.bin .eql) (.t 0) (.c (.int .i64 12)))),
    (.chk [] (.c3 .pick (.o2 (.bin .eql) (.t 0) (.c (.int .i64 6))) (.c (.bool true)) (.o2 (.bin .eql) (.t 0) (.c (.int .i64 12))))),
    (.chk [((.o3 .pick (.o2 (.bin .eql) (.t 0) (.c (.int .i64 6))) (.c (.bool true)) (.o2 (.bin .eql) (.t 0) (.c (.int .i64 12)))), true)] (.c2 (.bin .eql) (.t 1) (.c (.int .i64 5)))),
    (.chk [] (.c3 .pick (.o3 .pick (.o2 (.bin .eql) (.t 0) (.c (.int .i64 6))) (.c (.bool true)) (.o2 (.bin .eql) (.t 0) (.c (.int .i64 12)))) (.o2 (.bin .eql) (.t 1) (.c (.int .i64 5))) (.c (.bool false)))),
    (.set 46 (.o3 .pick (.o3 .pick (.o2 (.bin .eql) (.t 0) (.c (.int .i64 6))) (.c (.bool true)) (.o2 (.bin .eql) (.t 0) (.c (.int .i64 12)))) (.o2 (.bin .eql) (.t 1) (.c (.int .i64 5))) (.c (.bool false))))]) (.cond 46 .skip (.sts [(.chk [] (.c2 (.bin .eql) (.t 0) (.c (.int .i64 10)))),
    (.chk [((.o2 (.bin .eql) (.t 0) (.c (.int .i64 10))), true)] (.c2 (.bin .eql) (.t 1) (.c (.int .i64 7)))),
    (.chk [] (.c3 .pick (.o2 (.bin .eql) (.t 0) (.c (.int .i64 10))) (.o2 (.bin .eql) (.t 1) (.c (.int .i64 7))) (.c (.bool false)))),
    (.set 46 (.o3 .pick (.o2 (.bin .eql) (.t 0) (.c (.int .i64 10))) (.o2 (.bin .eql) (.t 1) (.c (.int .i64 7))) (.c (.bool false))))]))) (.cond 46 (.seq (.sts [(.set 6 (.c (.int .i64 9)))]) .ret) (.seq (.sts [(.chk [] (.c2 (.bin .eql) (.t 0) (.c (.int .i64 9)))),
    (.eff [((.o2 (.bin .eql) (.t 0) (.c (.int .i64 9))), true)] (some 68) (.call 36) [(.t 1)] []),
    (.chk [] (.c3 .pick (.o2 (.bin .eql) (.t 0) (.c (.int .i64 9))) (.t 68) (.c (.bool false)))),
    (.set 63 (.o3 .pick (.o2 (.bin .eql) (.t 0) (.c (.int .i64 9))) (.t 68) (.c (.bool false))))]) (.cond 63 (.seq (.sts [(.set 6 (.c (.int .i64 10)))]) .ret) (.seq (.sts [(.chk [] (.c2 (.bin .eql) (.t 0) (.c (.int .i64 10)))),
    (.chk [((.o2 (.bin .eql) (.t 0) (.c (.int .i64 10))), true)] (.c2 (.bin .eql) (.t 1) (.c (.int .i64 6)))),
    (.chk [] (.c3 .pick (.o2 (.bin .eql) (.t 0) (.c (.int .i64 10))) (.o2 (.bin .eql) (.t 1) (.c (.int .i64 6))) (.c (.bool false)))),
    (.set 70 (.o3 .pick (.o2 (.bin .eql) (.t 0) (.c (.int .i64 10))) (.o2 (.bin .eql) (.t 1) (.c (.int .i64 6))) (.c (.bool false))))]) (.cond 70 (.seq (.sts [(.set 6 (.c (.int .i64 13)))]) .ret) (.seq (.sts [(.chk [] (.c2 (.bin .eql) (.t 0) (.c (.int .i64 11)))),
    (.eff [((.o2 (.bin .eql) (.t 0) (.c (.int .i64 11))), true)] (some 82) (.call 36) [(.t 1)] []),
    (.chk [] (.c3 .pick (.o2 (.bin .eql) (.t 0) (.c (.int .i64 11))) (.t 82) (.c (.bool false)))),
    (.set 77 (.o3 .pick (.o2 (.bin .eql) (.t 0) (.c (.int .i64 11))) (.t 82) (.c (.bool false))))]) (.cond 77 (.seq (.sts [(.set 6 (.c (.int .i64 14)))]) .ret) (.seq (.sts [(.chk [] (.c2 (.bin .eql) (.t 0) (.c (.int .i64 6)))),
    (.chk [((.o2 (.bin .eql) (.t 0) (.c (.int .i64 6))), false)] (.c2 (.bin .eql) (.t 0) (.c (.int .i64 12)))),
    (.chk [] (.c3 .pick (.o2 (.bin .eql) (.t 0) (.c (.int .i64 6))) (.c (.bool true)) (.o2 (.bin .eql) (.t 0) (.c (.int .i64 12))))),
    (.chk [((.o3 .pick (.o2 (.bin .eql) (.t 0) (.c (.int .i64 6))) (.c (.bool true)) (.o2 (.bin .eql) (.t 0) (.c (.int .i64 12)))), false)] (.c2 (.bin .eql) (.t 0) (.c (.int .i64 13)))),
    (.chk [] (.c3 .pick (.o3 .pick (.o2 (.bin .eql) (.t 0) (.c (.int .i64 6))) (.c (.bool true)) (.o2 (.bin .eql) (.t 0) (.c (.int .i64 12)))) (.c (.bool true)) (.o2 (.bin .eql) (.t 0) (.c (.int .i64 13))))),
    (.chk [((.o3 .pick (.o3 .pick (.o2 (.bin .eql) (.t 0) (.c (.int .i64 6))) (.c (.bool true)) (.o2 (.bin .eql) (.t 0) (.c (.int .i64 12)))) (.c (.bool true)) (.o2 (.bin .eql) (.t 0) (.c (.int .i64 13)))), false)] (.c2 (.bin .eql) (.t 0) (.c (.int .i64 14)))),
    (.chk [] (.c3 .pick (.o3 .pick (.o3 .pick (.o2 (.bin .eql) (.t 0) (.c (.int .i64 6))) (.c (.bool true)) (.o2 (.bin .eql) (.t 0) (.c (.int .i64 12)))) (.c (.bool true)) (.o2 (.bin .eql) (.t 0) (.c (.int .i64 13)))) (.c (.bool true)) (.o2 (.bin .eql) (.t 0) (.c (.int .i64 14))))),
    (.set 84 (.o3 .pick (.o3 .pick (.o3 .pick (.o2 (.bin .eql) (.t 0) (.c (.int .i64 6))) (.c (.bool true)) (.o2 (.bin .eql) (.t 0) (.c (.int .i64 12)))) (.c (.bool true)) (.o2 (.bin .eql) (.t 0) (.c (.int .i64 13)))) (.c (.bool true)) (.o2 (.bin .eql) (.t 0) (.c (.int .i64 14)))))]) (.cond 84 (.seq (.seq (.sts [(.chk [] (.c2 (.bin .eql) (.t 1) (.c (.int .i64 7)))),
    (.set 100 (.o2 (.bin .eql) (.t 1) (.c (.int .i64 7))))]) (.cond 100 (.seq (.sts [(.set 6 (.c (.int .i64 5)))]) .ret) .skip)) (.seq (.sts [(.chk [] (.c2 (.bin .eql) (.t 1) (.c (.int .i64 8)))),
    (.set 102 (.o2 (.bin .eql) (.t 1) (.c (.int .i64 8))))]) (.cond 102 (.seq (.sts [(.set 6 (.t 2))]) .ret) .skip))) (.seq (.sts [(.chk [] (.c2 (.bin .eql) (.t 0) (.c (.int .i64 25)))),
    (.chk [((.o2 (.bin .eql) (.t 0) (.c (.int .i64 25))), true)] (.c2 (.bin .eql) (.t 1) (.c (.int .i64 0)))),
    (.chk [] (.c3 .pick (.o2 (.bin .eql) (.t 0) (.c (.int .i64 25))) (.o2 (.bin .eql) (.t 1) (.c (.int .i64 0))) (.c (.bool false)))),
    (.set 104 (.o3 .pick (.o2 (.bin .eql) (.t 0) (.c (.int .i64 25))) (.o2 (.bin .eql) (.t 1) (.c (.int .i64 0))) (.c (.bool false))))]) (.cond 104 (.seq (.sts [(.set 6 (.c (.int .i64 26)))]) .ret) .skip))))))))))))))))))))))) (.seq (.sts [(.set 6 (.c (.int .i64 (-1))))]) .ret)))
def rpMoveBody_E : Res := [(none, (.t 6))]
theorem rpMoveBody_C : Tryz.f48.body.bind (comp Tryz.prog rpMoveBody_M Tryz.f48.ntmps) = some rpMoveBody_S := by kernel_rfl
theorem rpMoveBody_R : resE Tryz.prog rpMoveBody_M Tryz.f48.results.toList = some rpMoveBody_E := by kernel_rfl
theorem rpMoveBody_H (G : Ctr) (hG : GOk Tryz.prog G) (a0 : Value) (a1 : Value) (a2 : Value) {h : H} {K : Value → H → Prop} {KP : List PanicEntry → H → Prop} (Hw : wpS G rpMoveBody_S (retQ rpMoveBody_E (callK K KP)) (envOf 0 [a0, a1, a2] env0) h) : HCX Tryz.prog 48 [a0, a1, a2] h K KP :=
  .inl ⟨by kernel_rfl, hc_of mixed hG Tryz.func48 rpMoveBody_C rpMoveBody_R (of_decide_eq_true (by kernel_rfl)) Hw⟩
def rpMove_M : Nat → Bool := fun i => Nat.testBit 8651463 i
def rpMove_S : S :=
  (.seq (.sts [(.set 6 (.c (.int .i64 0)))]) (.seq (.seq (.sts [(.chk [] (.c2 (.bin .leq) (.t 1) (.c (.int .i64 4)))),
    (.set 9 (.o2 (.bin .leq) (.t 1) (.c (.int .i64 4))))]) (.cond 9 (.seq (.sts [(.eff [] (some 12) (.call 46) [(.t 1), (.t 2)] []),
    (.set 6 (.t 12))]) .ret) .skip)) (.seq (.seq (.sts [(.chk [] (.c2 (.bin .geq) (.t 1) (.c (.int .i64 15)))),
    (.chk [((.o2 (.bin .geq) (.t 1) (.c (.int .i64 15))), true)] (.c2 (.bin .leq) (.t 1) (.c (.int .i64 24)))),
    (.chk [] (.c3 .pick (.o2 (.bin .geq) (.t 1) (.c (.int .i64 15))) (.o2 (.bin .leq) (.t 1) (.c (.int .i64 24))) (.c (.bool false)))),
    (.set 18 (.o3 .pick (.o2 (.bin .geq) (.t 1) (.c (.int .i64 15))) (.o2 (.bin .leq) (.t 1) (.c (.int .i64 24))) (.c (.bool false))))]) (.cond 18 (.seq (.sts [(.eff [] (some 21) (.call 47) [(.t 1), (.t 2)] []),
    (.set 6 (.t 21))]) .ret) .skip)) (.seq (.sts [(.set 7 (.c (.int .i64 0)))]) (.seq (.seq (.sts [(.chk [] (.c2 (.bin .eql) (.t 0) (.c (.int .i64 5)))),
    (.set 23 (.o2 (.bin .eql) (.t 0) (.c (.int .i64 5))))]) (.cond 23 (.sts [(.set 7 (.c (.int .i64 25)))]) .skip)) (.seq (.sts [(.eff [] (some 27) (.call 48) [(.t 1), (.t 2), (.t 7)] []),
    (.set 6 (.t 27))]) .ret))))))
def rpMove_E : Res := [(none, (.t 6))]
theorem rpMove_C : Tryz.f31.body.bind (comp Tryz.prog rpMove_M Tryz.f31.ntmps) = some rpMove_S := by kernel_rfl
theorem rpMove_R : resE Tryz.prog rpMove_M Tryz.f31.results.toList = some rpMove_E := by kernel_rfl
theorem rpMove_H (G : Ctr) (hG : GOk Tryz.prog G) (a0 : Value) (a1 : Value) (a2 : Value) {h : H} {K : Value → H → Prop} {KP : List PanicEntry → H → Prop} (Hw : wpS G rpMove_S (retQ rpMove_E (callK K KP)) (envOf 0 [a0, a1, a2] env0) h) : HCX Tryz.prog 31 [a0, a1, a2] h K KP :=
  .inl ⟨by kernel_rfl, hc_of mixed hG Tryz.func31 rpMove_C rpMove_R (of_decide_eq_true (by kernel_rfl)) Hw⟩
def rpIsTerm_M : Nat → Bool := fun i => Nat.testBit 5 i
def rpIsTerm_S : S :=
  (.seq (.sts [(.set 2 (.c (.bool false)))]) (.seq (.sts [(.chk [] (.c2 (.bin .eql) (.t 0) (.c (.int .i64 1)))),
    (.chk [((.o2 (.bin .eql) (.t 0) (.c (.int .i64 1))), false)] (.c2 (.bin .eql) (.t 0) (.c (.int .i64 2)))),
    (.chk [] (.c3 .pick (.o2 (.bin .eql) (.t 0) (.c (.int .i64 1))) (.c (.bool true)) (.o2 (.bin .eql) (.t 0) (.c (.int .i64 2))))),
    (.chk [((.o3 .pick (.o2 (.bin .eql) (.t 0) (.c (.int .i64 1))) (.c (.bool true)) (.o2 (.bin .eql) (.t 0) (.c (.int .i64 2)))), false)] (.c2 (.bin .eql) (.t 0) (.c (.int .i64 3)))),
    (.chk [] (.c3 .pick (.o3 .pick (.o2 (.bin .eql) (.t 0) (.c (.int .i64 1))) (.c (.bool true)) (.o2 (.bin .eql) (.t 0) (.c (.int .i64 2)))) (.c (.bool true)) (.o2 (.bin .eql) (.t 0) (.c (.int .i64 3))))),
    (.chk [((.o3 .pick (.o3 .pick (.o2 (.bin .eql) (.t 0) (.c (.int .i64 1))) (.c (.bool true)) (.o2 (.bin .eql) (.t 0) (.c (.int .i64 2)))) (.c (.bool true)) (.o2 (.bin .eql) (.t 0) (.c (.int .i64 3)))), false)] (.c2 (.bin .eql) (.t 0) (.c (.int .i64 4)))),
    (.chk [] (.c3 .pick (.o3 .pick (.o3 .pick (.o2 (.bin .eql) (.t 0) (.c (.int .i64 1))) (.c (.bool true)) (.o2 (.bin .eql) (.t 0) (.c (.int .i64 2)))) (.c (.bool true)) (.o2 (.bin .eql) (.t 0) (.c (.int .i64 3)))) (.c (.bool true)) (.o2 (.bin .eql) (.t 0) (.c (.int .i64 4))))),
    (.set 2 (.o3 .pick (.o3 .pick (.o3 .pick (.o2 (.bin .eql) (.t 0) (.c (.int .i64 1))) (.c (.bool true)) (.o2 (.bin .eql) (.t 0) (.c (.int .i64 2)))) (.c (.bool true)) (.o2 (.bin .eql) (.t 0) (.c (.int .i64 3)))) (.c (.bool true)) (.o2 (.bin .eql) (.t 0) (.c (.int .i64 4)))))]) .ret))
def rpIsTerm_E : Res := [(none, (.t 2))]
theorem rpIsTerm_C : Tryz.f36.body.bind (comp Tryz.prog rpIsTerm_M Tryz.f36.ntmps) = some rpIsTerm_S := by kernel_rfl
theorem rpIsTerm_R : resE Tryz.prog rpIsTerm_M Tryz.f36.results.toList = some rpIsTerm_E := by kernel_rfl
theorem rpIsTerm_H (G : Ctr) (hG : GOk Tryz.prog G) (a0 : Value) {h : H} {K : Value → H → Prop} {KP : List PanicEntry → H → Prop} (Hw : wpS G rpIsTerm_S (retQ rpIsTerm_E (callK K KP)) (envOf 0 [a0] env0) h) : HCX Tryz.prog 36 [a0] h K KP :=
  .inl ⟨by kernel_rfl, hc_of mixed hG Tryz.func36 rpIsTerm_C rpIsTerm_R (of_decide_eq_true (by kernel_rfl)) Hw⟩
def rpIsValue_M : Nat → Bool := fun i => Nat.testBit 5 i
def rpIsValue_S : S :=
  (.seq (.sts [(.set 2 (.c (.bool false)))]) (.seq (.sts [(.chk [] (.c2 (.bin .eql) (.t 0) (.c (.int .i64 1)))),
    (.chk [((.o2 (.bin .eql) (.t 0) (.c (.int .i64 1))), false)] (.c2 (.bin .eql) (.t 0) (.c (.int .i64 3)))),
    (.chk [] (.c3 .pick (.o2 (.bin .eql) (.t 0) (.c (.int .i64 1))) (.c (.bool true)) (.o2 (.bin .eql) (.t 0) (.c (.int .i64 3))))),
    (.chk [((.o3 .pick (.o2 (.bin .eql) (.t 0) (.c (.int .i64 1))) (.c (.bool true)) (.o2 (.bin .eql) (.t 0) (.c (.int .i64 3)))), false)] (.c2 (.bin .eql) (.t 0) (.c (.int .i64 4)))),
    (.chk [] (.c3 .pick (.o3 .pick (.o2 (.bin .eql) (.t 0) (.c (.int .i64 1))) (.c (.bool true)) (.o2 (.bin .eql) (.t 0) (.c (.int .i64 3)))) (.c (.bool true)) (.o2 (.bin .eql) (.t 0) (.c (.int .i64 4))))),
    (.set 2 (.o3 .pick (.o3 .pick (.o2 (.bin .eql) (.t 0) (.c (.int .i64 1))) (.c (.bool true)) (.o2 (.bin .eql) (.t 0) (.c (.int .i64 3)))) (.c (.bool true)) (.o2 (.bin .eql) (.t 0) (.c (.int .i64 4)))))]) .ret))
def rpIsValue_E : Res := [(none, (.t 2))]
theorem rpIsValue_C : Tryz.f60.body.bind (comp Tryz.prog rpIsValue_M Tryz.f60.ntmps) = some rpIsValue_S := by kernel_rfl
theorem rpIsValue_R : resE Tryz.prog rpIsValue_M Tryz.f60.results.toList = some rpIsValue_E := by kernel_rfl
theorem rpIsValue_H (G : Ctr) (hG : GOk Tryz.prog G) (a0 : Value) {h : H} {K : Value → H → Prop} {KP : List PanicEntry → H → Prop} (Hw : wpS G rpIsValue_S (retQ rpIsValue_E (callK K KP)) (envOf 0 [a0] env0) h) : HCX Tryz.prog 60 [a0] h K KP :=
  .inl ⟨by kernel_rfl, hc_of mixed hG Tryz.func60 rpIsValue_C rpIsValue_R (of_decide_eq_true (by kernel_rfl)) Hw⟩
def rpTake_M : Nat → Bool := fun i => Nat.testBit 316661513060559 i
def rpTake_S : S :=
  (.seq (.sts [(.eff [] (some 3) (.box 73) [(.t 0)] []),
    (.eff [] (some 6) (.alloc 73 #[(.int .i64 0), (.int .i64 0), (.int .i64 0)]) [] [])]) (.seq (.block 0 (.seq (.seq (.sts [(.chk [] (.c2 (.bin .eql) (.t 1) (.c (.int .i64 0)))),
    (.chk [((.o2 (.bin .eql) (.t 1) (.c (.int .i64 0))), true)] (.c2 (.bin .eql) (.t 2) (.c (.int .i64 1)))),
    (.chk [] (.c3 .pick (.o2 (.bin .eql) (.t 1) (.c (.int .i64 0))) (.o2 (.bin .eql) (.t 2) (.c (.int .i64 1))) (.c (.bool false)))),
    (.set 7 (.o3 .pick (.o2 (.bin .eql) (.t 1) (.c (.int .i64 0))) (.o2 (.bin .eql) (.t 2) (.c (.int .i64 1))) (.c (.bool false))))]) (.cond 7 .skip (.sts [(.chk [] (.c2 (.bin .eql) (.t 1) (.c (.int .i64 15)))),
    (.chk [((.o2 (.bin .eql) (.t 1) (.c (.int .i64 15))), true)] (.c2 (.bin .eql) (.t 2) (.c (.int .i64 1)))),
    (.chk [] (.c3 .pick (.o2 (.bin .eql) (.t 1) (.c (.int .i64 15))) (.o2 (.bin .eql) (.t 2) (.c (.int .i64 1))) (.c (.bool false)))),
    (.set 7 (.o3 .pick (.o2 (.bin .eql) (.t 1) (.c (.int .i64 15))) (.o2 (.bin .eql) (.t 2) (.c (.int .i64 1))) (.c (.bool false))))]))) (.cond 7 (.sts [(.chk [] (.c1 (.fld 0) (.t 3))),
    (.chk [] (.c1 .ld1 (.o1 (.fld 0) (.t 3)))),
    (.chk [] (.c2 (.bin .add) (.o1 .ld1 (.o1 (.fld 0) (.t 3))) (.c (.int .i64 1)))),
    (.chk [] (.c1 (.fld 0) (.t 3))),
    (.set 22 (.o2 (.bin .add) (.o1 .ld1 (.o1 (.fld 0) (.t 3))) (.c (.int .i64 1)))),
    (.eff [] none (.store 1) [(.o1 (.fld 0) (.t 3)), (.t 22)] [])]) (.seq (.sts [(.chk [] (.c2 (.bin .eql) (.t 1) (.c (.int .i64 5)))),
    (.set 24 (.o2 (.bin .eql) (.t 1) (.c (.int .i64 5))))]) (.cond 24 (.sts [(.chk [] (.c1 (.fld 1) (.t 3))),
    (.chk [] (.c1 .ld1 (.o1 (.fld 1) (.t 3)))),
    (.chk [] (.c2 (.bin .add) (.o1 .ld1 (.o1 (.fld 1) (.t 3))) (.c (.int .i64 1)))),
    (.chk [] (.c1 (.fld 1) (.t 3))),
    (.set 29 (.o2 (.bin .add) (.o1 .ld1 (.o1 (.fld 1) (.t 3))) (.c (.int .i64 1)))),
    (.eff [] none (.store 1) [(.o1 (.fld 1) (.t 3)), (.t 29)] [])]) (.seq (.seq (.sts [(.chk [] (.c2 (.bin .eql) (.t 1) (.c (.int .i64 2)))),
    (.set 31 (.o2 (.bin .eql) (.t 1) (.c (.int .i64 2))))]) (.cond 31 .skip (.seq (.sts [(.chk [] (.c2 (.bin .eql) (.t 1) (.c (.int .i64 9)))),
    (.set 31 (.o2 (.bin .eql) (.t 1) (.c (.int .i64 9))))]) (.cond 31 .skip (.seq (.sts [(.chk [] (.c2 (.bin .eql) (.t 1) (.c (.int .i64 17)))),
    (.set 31 (.o2 (.bin .eql) (.t 1) (.c (.int .i64 17))))]) (.cond 31 .skip (.sts [(.chk [] (.c2 (.bin .eql) (.t 1) (.c (.int .i64 22)))),
    (.set 31 (.o2 (.bin .eql) (.t 1) (.c (.int .i64 22))))]))))))) (.cond 31 (.sts [(.chk [] (.c1 (.fld 2) (.t 3))),
    (.chk [] (.c1 .ld1 (.o1 (.fld 2) (.t 3)))),
    (.chk [] (.c2 (.bin .add) (.o1 .ld1 (.o1 (.fld 2) (.t 3))) (.c (.int .i64 1)))),
    (.chk [] (.c1 (.fld 2) (.t 3))),
    (.set 42 (.o2 (.bin .add) (.o1 .ld1 (.o1 (.fld 2) (.t 3))) (.c (.int .i64 1)))),
    (.eff [] none (.store 1) [(.o1 (.fld 2) (.t 3)), (.t 42)] [])]) .skip))))))) (.seq (.seq (.sts [(.chk [] (.c2 (.bin .eql) (.t 2) (.c (.int .i64 5)))),
    (.set 45 (.o2 (.bin .eql) (.t 2) (.c (.int .i64 5))))]) (.cond 45 (.sts [(.chk [] (.c1 (.fld 2) (.t 3))),
    (.eff [] none (.store 1) [(.o1 (.fld 2) (.t 3)), (.c (.int .i64 0))] [])]) .skip)) (.seq (.seq (.sts [(.chk [] (.c2 (.bin .eql) (.t 2) (.c (.int .i64 9)))),
    (.set 48 (.o2 (.bin .eql) (.t 2) (.c (.int .i64 9))))]) (.cond 48 (.sts [(.chk [] (.c1 (.fld 1) (.t 3))),
    (.eff [] none (.store 1) [(.o1 (.fld 1) (.t 3)), (.c (.int .i64 0))] [])]) .skip)) (.seq (.sts [(.chk [] (.c1 (.ldn 3) (.t 3))),
    (.set 50 (.o1 (.ldn 3) (.t 3))),
    (.eff [] none (.store 3) [(.t 6), (.t 50)] [])]) .ret)))))
def rpTake_E : Res := [((some (.c1 (.ldn 3) (.t 6))), (.o1 (.ldn 3) (.t 6)))]
theorem rpTake_C : Tryz.f32.body.bind (comp Tryz.prog rpTake_M Tryz.f32.ntmps) = some rpTake_S := by kernel_rfl
theorem rpTake_R : resE Tryz.prog rpTake_M Tryz.f32.results.toList = some rpTake_E := by kernel_rfl
theorem rpTake_H (G : Ctr) (hG : GOk Tryz.prog G) (a0 : Value) (a1 : Value) (a2 : Value) {h : H} {K : Value → H → Prop} {KP : List PanicEntry → H → Prop} (Hw : wpS G rpTake_S (retQ rpTake_E (callK K KP)) (envOf 0 [a0, a1, a2] env0) h) : HCX Tryz.prog 32 [a0, a1, a2] h K KP :=
  .inl ⟨by kernel_rfl, hc_of mixed hG Tryz.func32 rpTake_C rpTake_R (of_decide_eq_true (by kernel_rfl)) Hw⟩
def rpOver_M : Nat → Bool := fun i => Nat.testBit 17825847 i
def rpOver_S : S :=
  (.seq (.sts [(.eff [] (some 2) (.box 73) [(.t 0)] []),
    (.set 4 (.c (.int .i64 0)))]) (.seq (.block 0 (.seq (.seq (.sts [(.chk [] (.c2 (.bin .eql) (.t 1) (.c (.int .i64 0)))),
    (.chk [((.o2 (.bin .eql) (.t 1) (.c (.int .i64 0))), true)] (.c1 (.fld 0) (.t 2))),
    (.chk [((.o2 (.bin .eql) (.t 1) (.c (.int .i64 0))), true)] (.c1 .ld1 (.o1 (.fld 0) (.t 2)))),
    (.chk [((.o2 (.bin .eql) (.t 1) (.c (.int .i64 0))), true)] (.c2 (.bin .gtr) (.o1 .ld1 (.o1 (.fld 0) (.t 2))) (.c (.int .i64 512)))),
    (.chk [] (.c3 .pick (.o2 (.bin .eql) (.t 1) (.c (.int .i64 0))) (.o2 (.bin .gtr) (.o1 .ld1 (.o1 (.fld 0) (.t 2))) (.c (.int .i64 512))) (.c (.bool false)))),
    (.set 5 (.o3 .pick (.o2 (.bin .eql) (.t 1) (.c (.int .i64 0))) (.o2 (.bin .gtr) (.o1 .ld1 (.o1 (.fld 0) (.t 2))) (.c (.int .i64 512))) (.c (.bool false))))]) (.cond 5 .skip (.sts [(.chk [] (.c2 (.bin .eql) (.t 1) (.c (.int .i64 15)))),
    (.chk [((.o2 (.bin .eql) (.t 1) (.c (.int .i64 15))), true)] (.c1 (.fld 0) (.t 2))),
    (.chk [((.o2 (.bin .eql) (.t 1) (.c (.int .i64 15))), true)] (.c1 .ld1 (.o1 (.fld 0) (.t 2)))),
    (.chk [((.o2 (.bin .eql) (.t 1) (.c (.int .i64 15))), true)] (.c2 (.bin .gtr) (.o1 .ld1 (.o1 (.fld 0) (.t 2))) (.c (.int .i64 4096)))),
    (.chk [] (.c3 .pick (.o2 (.bin .eql) (.t 1) (.c (.int .i64 15))) (.o2 (.bin .gtr) (.o1 .ld1 (.o1 (.fld 0) (.t 2))) (.c (.int .i64 4096))) (.c (.bool false)))),
    (.set 5 (.o3 .pick (.o2 (.bin .eql) (.t 1) (.c (.int .i64 15))) (.o2 (.bin .gtr) (.o1 .ld1 (.o1 (.fld 0) (.t 2))) (.c (.int .i64 4096))) (.c (.bool false))))]))) (.cond 5 (.seq (.sts [(.set 4 (.c (.int .i64 24)))]) .ret) (.seq (.sts [(.chk [] (.c1 (.fld 1) (.t 2))),
    (.chk [] (.c1 .ld1 (.o1 (.fld 1) (.t 2)))),
    (.chk [] (.c2 (.bin .gtr) (.o1 .ld1 (.o1 (.fld 1) (.t 2))) (.c (.int .i64 16)))),
    (.set 20 (.o2 (.bin .gtr) (.o1 .ld1 (.o1 (.fld 1) (.t 2))) (.c (.int .i64 16))))]) (.cond 20 (.seq (.sts [(.set 4 (.c (.int .i64 23)))]) .ret) (.seq (.sts [(.chk [] (.c1 (.fld 2) (.t 2))),
    (.chk [] (.c1 .ld1 (.o1 (.fld 2) (.t 2)))),
    (.chk [] (.c2 (.bin .gtr) (.o1 .ld1 (.o1 (.fld 2) (.t 2))) (.c (.int .i64 8)))),
    (.set 24 (.o2 (.bin .gtr) (.o1 .ld1 (.o1 (.fld 2) (.t 2))) (.c (.int .i64 8))))]) (.cond 24 (.seq (.sts [(.set 4 (.c (.int .i64 22)))]) .ret) .skip))))))) (.seq (.sts [(.set 4 (.c (.int .i64 0)))]) .ret)))
def rpOver_E : Res := [(none, (.t 4))]
theorem rpOver_C : Tryz.f33.body.bind (comp Tryz.prog rpOver_M Tryz.f33.ntmps) = some rpOver_S := by kernel_rfl
theorem rpOver_R : resE Tryz.prog rpOver_M Tryz.f33.results.toList = some rpOver_E := by kernel_rfl
theorem rpOver_H (G : Ctr) (hG : GOk Tryz.prog G) (a0 : Value) (a1 : Value) {h : H} {K : Value → H → Prop} {KP : List PanicEntry → H → Prop} (Hw : wpS G rpOver_S (retQ rpOver_E (callK K KP)) (envOf 0 [a0, a1] env0) h) : HCX Tryz.prog 33 [a0, a1] h K KP :=
  .inl ⟨by kernel_rfl, hc_of mixed hG Tryz.func33 rpOver_C rpOver_R (of_decide_eq_true (by kernel_rfl)) Hw⟩
def rpCheck_M : Nat → Bool := fun i => Nat.testBit 295724438499675421683 i
def rpCheck_L1 : S :=
  (.seq (.sts [(.chk [] (.c2 (.bin .lss) (.t 26) (.t 25))),
    (.set 27 (.o2 (.bin .lss) (.t 26) (.t 25)))]) (.seq (.cond 27 .skip (.exit 0)) (.seq (.block 1 (.seq (.sts [(.chk [] (.c2 (.idxA 6) (.t 24) (.t 26))),
    (.chk [] (.c1 (.ldn 6) (.o2 (.idxA 6) (.t 24) (.t 26)))),
    (.set 29 (.o1 (.ldn 6) (.o2 (.idxA 6) (.t 24) (.t 26)))),
    (.eff [] (some 11) (.alloc 40 #[(.int .i64 0), (str []), (.int .i64 0), (.int .i64 0), (.int .i64 0), (.int .i64 0)]) [] []),
    (.eff [] none (.store 6) [(.t 11), (.t 29)] [])]) (.seq (.sts [(.chk [] (.c1 (.fld 0) (.t 11))),
    (.chk [] (.c1 .ld1 (.o1 (.fld 0) (.t 11)))),
    (.set 33 (.o1 .ld1 (.o1 (.fld 0) (.t 11)))),
    (.eff [] (some 34) (.call 31) [(.t 1), (.t 8), (.t 33)] []),
    (.set 12 (.t 34))]) (.seq (.seq (.sts [(.chk [] (.c2 (.bin .eql) (.t 12) (.c (.int .i64 (-1))))),
    (.chk [((.o2 (.bin .eql) (.t 12) (.c (.int .i64 (-1)))), true)] (.c1 (.fld 0) (.t 11))),
    (.chk [((.o2 (.bin .eql) (.t 12) (.c (.int .i64 (-1)))), true)] (.c1 .ld1 (.o1 (.fld 0) (.t 11)))),
    (.chk [((.o2 (.bin .eql) (.t 12) (.c (.int .i64 (-1)))), true)] (.c2 (.bin .eql) (.o1 .ld1 (.o1 (.fld 0) (.t 11))) (.c (.int .i64 0)))),
    (.chk [] (.c3 .pick (.o2 (.bin .eql) (.t 12) (.c (.int .i64 (-1)))) (.o2 (.bin .eql) (.o1 .ld1 (.o1 (.fld 0) (.t 11))) (.c (.int .i64 0))) (.c (.bool false)))),
    (.set 41 (.o3 .pick (.o2 (.bin .eql) (.t 12) (.c (.int .i64 (-1)))) (.o2 (.bin .eql) (.o1 .ld1 (.o1 (.fld 0) (.t 11))) (.c (.int .i64 0))) (.c (.bool false))))]) (.cond 41 (.seq (.sts [(.chk [] (.c1 (.fld 4) (.t 11))),
    (.chk [] (.c1 .ld1 (.o1 (.fld 4) (.t 11)))),
    (.chk [] (.cb 3 [(0, (1, (.c (.int .i64 21)))), (2, (1, (.o1 .ld1 (.o1 (.fld 4) (.t 11)))))])),
    (.set 4 (.c (.slice none 0 0))),
    (.set 44 (.o2 (.put 2 1) (.o2 (.put 0 1) (.c (.agg #[(.int .i64 0), (.int .i64 0), (.int .i64 0)])) (.c (.int .i64 21))) (.o1 .ld1 (.o1 (.fld 4) (.t 11))))),
    (.eff [] none (.store 3) [(.t 5), (.t 44)] [])]) .ret) .skip)) (.seq (.seq (.sts [(.chk [] (.c2 (.bin .eql) (.t 12) (.c (.int .i64 (-1))))),
    (.set 46 (.o2 (.bin .eql) (.t 12) (.c (.int .i64 (-1)))))]) (.cond 46 (.seq (.sts [(.chk [] (.c1 (.fld 4) (.t 11))),
    (.chk [] (.c1 .ld1 (.o1 (.fld 4) (.t 11)))),
    (.chk [] (.cb 3 [(0, (1, (.c (.int .i64 20)))), (2, (1, (.o1 .ld1 (.o1 (.fld 4) (.t 11)))))])),
    (.set 4 (.c (.slice none 0 0))),
    (.set 49 (.o2 (.put 2 1) (.o2 (.put 0 1) (.c (.agg #[(.int .i64 0), (.int .i64 0), (.int .i64 0)])) (.c (.int .i64 20))) (.o1 .ld1 (.o1 (.fld 4) (.t 11))))),
    (.eff [] none (.store 3) [(.t 5), (.t 49)] [])]) .ret) .skip)) (.seq (.sts [(.chk [] (.c1 (.ldn 3) (.t 9))),
    (.chk [] (.c1 (.fld 0) (.t 11))),
    (.chk [] (.c1 .ld1 (.o1 (.fld 0) (.t 11)))),
    (.set 53 (.o1 .ld1 (.o1 (.fld 0) (.t 11)))),
    (.set 50 (.o1 (.ldn 3) (.t 9))),
    (.eff [] (some 54) (.call 32) [(.t 50), (.t 8), (.t 53)] []),
    (.eff [] none (.store 3) [(.t 9), (.t 54)] [])]) (.seq (.sts [(.chk [] (.c1 (.ldn 3) (.t 9))),
    (.set 55 (.o1 (.ldn 3) (.t 9))),
    (.eff [] (some 57) (.call 33) [(.t 55), (.t 1)] []),
    (.set 13 (.t 57))]) (.seq (.seq (.sts [(.chk [] (.c2 (.bin .neq) (.t 13) (.c (.int .i64 0)))),
    (.set 59 (.o2 (.bin .neq) (.t 13) (.c (.int .i64 0))))]) (.cond 59 (.seq (.sts [(.chk [] (.c1 (.fld 4) (.t 11))),
    (.chk [] (.c1 .ld1 (.o1 (.fld 4) (.t 11)))),
    (.chk [] (.cb 3 [(0, (1, (.t 13))), (2, (1, (.o1 .ld1 (.o1 (.fld 4) (.t 11)))))])),
    (.set 4 (.c (.slice none 0 0))),
    (.set 63 (.o2 (.put 2 1) (.o2 (.put 0 1) (.c (.agg #[(.int .i64 0), (.int .i64 0), (.int .i64 0)])) (.t 13)) (.o1 .ld1 (.o1 (.fld 4) (.t 11))))),
    (.eff [] none (.store 3) [(.t 5), (.t 63)] [])]) .ret) .skip)) (.sts [(.set 8 (.t 12))]))))))))) (.sts [(.chk [] (.c2 (.bin .add) (.t 26) (.c (.int .i64 1)))),
    (.set 65 (.o2 (.bin .add) (.t 26) (.c (.int .i64 1)))),
    (.set 26 (.t 65))]))))
def rpCheck_S : S :=
  (.seq (.sts [(.set 4 (.c (.slice none 0 0))),
    (.eff [] (some 5) (.alloc 25 #[(.int .i64 0), (.int .i64 0), (.int .i64 0)]) [] [])]) (.seq (.seq (.sts [(.chk [] (.c1 .lens (.t 0))),
    (.chk [] (.c2 (.bin .gtr) (.o1 .lens (.t 0)) (.c (.int .i64 65536)))),
    (.set 16 (.o2 (.bin .gtr) (.o1 .lens (.t 0)) (.c (.int .i64 65536))))]) (.cond 16 (.seq (.sts [(.chk [] (.cb 3 [(0, (1, (.c (.int .i64 1))))])),
    (.set 4 (.c (.slice none 0 0))),
    (.eff [] none (.store 3) [(.t 5), (.o2 (.put 0 1) (.c (.agg #[(.int .i64 0), (.int .i64 0), (.int .i64 0)])) (.c (.int .i64 1)))] [])]) .ret) .skip)) (.seq (.sts [(.eff [] (some 20) (.call 30) [(.t 0)] []),
    (.chk [] (.c1 (.ext 0) (.t 20))),
    (.chk [] (.c1 (.ext 1) (.t 20))),
    (.eff [] (some 7) (.alloc 25 #[(.int .i64 0), (.int .i64 0), (.int .i64 0)]) [] []),
    (.set 6 (.o1 (.ext 0) (.t 20))),
    (.eff [] none (.store 3) [(.t 7), (.o1 (.ext 1) (.t 20))] [])]) (.seq (.sts [(.set 8 (.t 1))]) (.seq (.sts [(.eff [] (some 9) (.alloc 73 #[(.int .i64 0), (.int .i64 0), (.int .i64 0)]) [] [])]) (.seq (.seq (.sts [(.set 24 (.t 6)),
    (.chk [] (.c1 .len (.t 24))),
    (.set 25 (.o1 .len (.t 24))),
    (.set 26 (.c (.int .i64 0)))]) (.block 0 (.loop rpCheck_L1))) (.seq (.seq (.sts [(.chk [] (.c1 (.fld 0) (.t 7))),
    (.chk [] (.c1 .ld1 (.o1 (.fld 0) (.t 7)))),
    (.chk [] (.c2 (.bin .neq) (.o1 .ld1 (.o1 (.fld 0) (.t 7))) (.c (.int .i64 0)))),
    (.set 68 (.o2 (.bin .neq) (.o1 .ld1 (.o1 (.fld 0) (.t 7))) (.c (.int .i64 0))))]) (.cond 68 (.seq (.sts [(.chk [] (.c1 (.ldn 3) (.t 7))),
    (.set 4 (.c (.slice none 0 0))),
    (.set 69 (.o1 (.ldn 3) (.t 7))),
    (.eff [] none (.store 3) [(.t 5), (.t 69)] [])]) .ret) .skip)) (.seq (.sts [(.chk [] (.cb 3 [])),
    (.set 4 (.t 6)),
    (.eff [] none (.store 3) [(.t 5), (.c (.agg #[(.int .i64 0), (.int .i64 0), (.int .i64 0)]))] [])]) .ret))))))))
def rpCheck_E : Res := [(none, (.t 4)), ((some (.c1 (.ldn 3) (.t 5))), (.o1 (.ldn 3) (.t 5)))]
theorem rpCheck_C : Tryz.f15.body.bind (comp Tryz.prog rpCheck_M Tryz.f15.ntmps) = some rpCheck_S := by kernel_rfl
theorem rpCheck_R : resE Tryz.prog rpCheck_M Tryz.f15.results.toList = some rpCheck_E := by kernel_rfl
theorem rpCheck_H (G : Ctr) (hG : GOk Tryz.prog G) (a0 : Value) (a1 : Value) {h : H} {K : Value → H → Prop} {KP : List PanicEntry → H → Prop} (Hw : wpS G rpCheck_S (retQ rpCheck_E (callK K KP)) (envOf 0 [a0, a1] env0) h) : HCX Tryz.prog 15 [a0, a1] h K KP :=
  .inl ⟨by kernel_rfl, hc_of mixed hG Tryz.func15 rpCheck_C rpCheck_R (of_decide_eq_true (by kernel_rfl)) Hw⟩
def rpCut_M : Nat → Bool := fun i => Nat.testBit 8598601459 i
def rpCut_L1 : S :=
  (.seq (.sts [(.chk [] (.c2 (.bin .lss) (.t 12) (.t 11))),
    (.set 13 (.o2 (.bin .lss) (.t 12) (.t 11)))]) (.seq (.cond 13 .skip (.exit 0)) (.seq (.block 1 (.seq (.sts [(.chk [] (.c2 (.idxA 6) (.t 10) (.t 12))),
    (.chk [] (.c1 (.ldn 6) (.o2 (.idxA 6) (.t 10) (.t 12)))),
    (.set 15 (.o1 (.ldn 6) (.o2 (.idxA 6) (.t 10) (.t 12)))),
    (.eff [] (some 9) (.alloc 40 #[(.int .i64 0), (str []), (.int .i64 0), (.int .i64 0), (.int .i64 0), (.int .i64 0)]) [] []),
    (.eff [] none (.store 6) [(.t 9), (.t 15)] [])]) (.seq (.seq (.sts [(.chk [] (.c1 (.fld 0) (.t 9))),
    (.chk [] (.c1 .ld1 (.o1 (.fld 0) (.t 9)))),
    (.chk [] (.c2 (.bin .eql) (.o1 .ld1 (.o1 (.fld 0) (.t 9))) (.c (.int .i64 5)))),
    (.set 18 (.o2 (.bin .eql) (.o1 .ld1 (.o1 (.fld 0) (.t 9))) (.c (.int .i64 5))))]) (.cond 18 (.sts [(.chk [] (.c2 (.bin .add) (.t 7) (.c (.int .i64 1)))),
    (.set 20 (.o2 (.bin .add) (.t 7) (.c (.int .i64 1)))),
    (.set 7 (.t 20))]) .skip)) (.seq (.seq (.sts [(.chk [] (.c1 (.fld 0) (.t 9))),
    (.chk [] (.c1 .ld1 (.o1 (.fld 0) (.t 9)))),
    (.chk [] (.c2 (.bin .eql) (.o1 .ld1 (.o1 (.fld 0) (.t 9))) (.c (.int .i64 6)))),
    (.set 23 (.o2 (.bin .eql) (.o1 .ld1 (.o1 (.fld 0) (.t 9))) (.c (.int .i64 6))))]) (.cond 23 (.sts [(.chk [] (.c2 (.bin .sub) (.t 7) (.c (.int .i64 1)))),
    (.set 25 (.o2 (.bin .sub) (.t 7) (.c (.int .i64 1)))),
    (.set 7 (.t 25))]) .skip)) (.seq (.seq (.sts [(.chk [] (.c1 (.fld 0) (.t 9))),
    (.chk [] (.c1 .ld1 (.o1 (.fld 0) (.t 9)))),
    (.chk [] (.c2 (.bin .eql) (.o1 .ld1 (.o1 (.fld 0) (.t 9))) (.t 1))),
    (.chk [((.o2 (.bin .eql) (.o1 .ld1 (.o1 (.fld 0) (.t 9))) (.t 1)), true)] (.c2 (.bin .eql) (.t 7) (.c (.int .i64 0)))),
    (.chk [] (.c3 .pick (.o2 (.bin .eql) (.o1 .ld1 (.o1 (.fld 0) (.t 9))) (.t 1)) (.o2 (.bin .eql) (.t 7) (.c (.int .i64 0))) (.c (.bool false)))),
    (.set 33 (.o3 .pick (.o2 (.bin .eql) (.o1 .ld1 (.o1 (.fld 0) (.t 9))) (.t 1)) (.o2 (.bin .eql) (.t 7) (.c (.int .i64 0))) (.c (.bool false))))]) (.cond 33 (.seq (.sts [(.eff [] (some 36) (.bsl 43 1 1 [(.slice none 0 0)] [0]) [(.t 6)] []),
    (.eff [] (some 37) (.app 43 1 24 [(.slice none 0 0)]) [(.t 5), (.t 36)] []),
    (.set 5 (.t 37))]) (.seq (.sts [(.set 6 (.c (.slice none 0 0)))]) (.exit 1))) .skip)) (.sts [(.chk [] (.c1 (.ldn 6) (.t 9))),
    (.set 39 (.o1 (.ldn 6) (.t 9))),
    (.eff [] (some 40) (.bsl 40 6 1 [(.int .i64 0), (str []), (.int .i64 0), (.int .i64 0), (.int .i64 0), (.int .i64 0)] [0]) [(.t 39)] []),
    (.eff [] (some 41) (.app 40 6 56 [(.int .i64 0), (str []), (.int .i64 0), (.int .i64 0), (.int .i64 0), (.int .i64 0)]) [(.t 6), (.t 40)] []),
    (.set 6 (.t 41))])))))) (.sts [(.chk [] (.c2 (.bin .add) (.t 12) (.c (.int .i64 1)))),
    (.set 42 (.o2 (.bin .add) (.t 12) (.c (.int .i64 1)))),
    (.set 12 (.t 42))]))))
def rpCut_S : S :=
  (.seq (.sts [(.set 4 (.c (.slice none 0 0)))]) (.seq (.sts [(.set 5 (.c (.slice none 0 0)))]) (.seq (.sts [(.set 6 (.c (.slice none 0 0)))]) (.seq (.sts [(.set 7 (.c (.int .i64 0)))]) (.seq (.seq (.sts [(.set 10 (.t 0)),
    (.chk [] (.c1 .len (.t 10))),
    (.set 11 (.o1 .len (.t 10))),
    (.set 12 (.c (.int .i64 0)))]) (.block 0 (.loop rpCut_L1))) (.seq (.sts [(.eff [] (some 45) (.bsl 43 1 1 [(.slice none 0 0)] [0]) [(.t 6)] []),
    (.eff [] (some 46) (.app 43 1 24 [(.slice none 0 0)]) [(.t 5), (.t 45)] []),
    (.set 4 (.t 46))]) .ret))))))
def rpCut_E : Res := [(none, (.t 4))]
theorem rpCut_C : Tryz.f23.body.bind (comp Tryz.prog rpCut_M Tryz.f23.ntmps) = some rpCut_S := by kernel_rfl
theorem rpCut_R : resE Tryz.prog rpCut_M Tryz.f23.results.toList = some rpCut_E := by kernel_rfl
theorem rpCut_H (G : Ctr) (hG : GOk Tryz.prog G) (a0 : Value) (a1 : Value) {h : H} {K : Value → H → Prop} {KP : List PanicEntry → H → Prop} (Hw : wpS G rpCut_S (retQ rpCut_E (callK K KP)) (envOf 0 [a0, a1] env0) h) : HCX Tryz.prog 23 [a0, a1] h K KP :=
  .inl ⟨by kernel_rfl, hc_of mixed hG Tryz.func23 rpCut_C rpCut_R (of_decide_eq_true (by kernel_rfl)) Hw⟩
def rpTerm_M : Nat → Bool := fun i => Nat.testBit 528439 i
def rpTerm_S : S :=
  (.seq (.sts [(.eff [] (some 1) (.box 40) [(.t 0)] []),
    (.eff [] (some 2) (.alloc 53 #[(.int .i64 0), (.int .i64 0), (str []), (.int .i64 0)]) [] [])]) (.seq (.seq (.sts [(.chk [] (.c1 (.fld 0) (.t 1))),
    (.chk [] (.c1 .ld1 (.o1 (.fld 0) (.t 1)))),
    (.set 4 (.o1 .ld1 (.o1 (.fld 0) (.t 1))))]) (.block 0 (.seq (.sts [(.chk [] (.c2 (.bin .eql) (.t 4) (.c (.int .i64 3)))),
    (.set 5 (.o2 (.bin .eql) (.t 4) (.c (.int .i64 3))))]) (.cond 5 (.seq (.sts [(.chk [] (.c1 (.fld 2) (.t 1))),
    (.chk [] (.c1 .ld1 (.o1 (.fld 2) (.t 1)))),
    (.chk [] (.c1 (.fld 4) (.t 1))),
    (.chk [] (.c1 .ld1 (.o1 (.fld 4) (.t 1)))),
    (.chk [] (.cb 4 [(0, (1, (.c (.int .i64 1)))), (1, (1, (.o1 .ld1 (.o1 (.fld 2) (.t 1))))), (3, (1, (.o1 .ld1 (.o1 (.fld 4) (.t 1)))))])),
    (.set 11 (.o2 (.put 3 1) (.o2 (.put 1 1) (.o2 (.put 0 1) (.c (.agg #[(.int .i64 0), (.int .i64 0), (str []), (.int .i64 0)])) (.c (.int .i64 1))) (.o1 .ld1 (.o1 (.fld 2) (.t 1)))) (.o1 .ld1 (.o1 (.fld 4) (.t 1))))),
    (.eff [] none (.store 4) [(.t 2), (.t 11)] [])]) .ret) (.seq (.sts [(.chk [] (.c2 (.bin .eql) (.t 4) (.c (.int .i64 1)))),
    (.set 12 (.o2 (.bin .eql) (.t 4) (.c (.int .i64 1))))]) (.cond 12 (.seq (.sts [(.chk [] (.c1 (.fld 1) (.t 1))),
    (.chk [] (.c1 .ld1 (.o1 (.fld 1) (.t 1)))),
    (.chk [] (.c1 (.fld 4) (.t 1))),
    (.chk [] (.c1 .ld1 (.o1 (.fld 4) (.t 1)))),
    (.chk [] (.cb 4 [(0, (1, (.c (.int .i64 2)))), (2, (1, (.o1 .ld1 (.o1 (.fld 1) (.t 1))))), (3, (1, (.o1 .ld1 (.o1 (.fld 4) (.t 1)))))])),
    (.set 18 (.o2 (.put 3 1) (.o2 (.put 2 1) (.o2 (.put 0 1) (.c (.agg #[(.int .i64 0), (.int .i64 0), (str []), (.int .i64 0)])) (.c (.int .i64 2))) (.o1 .ld1 (.o1 (.fld 1) (.t 1)))) (.o1 .ld1 (.o1 (.fld 4) (.t 1))))),
    (.eff [] none (.store 4) [(.t 2), (.t 18)] [])]) .ret) (.seq (.sts [(.chk [] (.c2 (.bin .eql) (.t 4) (.c (.int .i64 4)))),
    (.set 19 (.o2 (.bin .eql) (.t 4) (.c (.int .i64 4))))]) (.cond 19 (.seq (.sts [(.chk [] (.c1 (.fld 1) (.t 1))),
    (.chk [] (.c1 .ld1 (.o1 (.fld 1) (.t 1)))),
    (.chk [] (.c1 (.fld 4) (.t 1))),
    (.chk [] (.c1 .ld1 (.o1 (.fld 4) (.t 1)))),
    (.chk [] (.cb 4 [(0, (1, (.c (.int .i64 3)))), (2, (1, (.o1 .ld1 (.o1 (.fld 1) (.t 1))))), (3, (1, (.o1 .ld1 (.o1 (.fld 4) (.t 1)))))])),
    (.set 25 (.o2 (.put 3 1) (.o2 (.put 2 1) (.o2 (.put 0 1) (.c (.agg #[(.int .i64 0), (.int .i64 0), (str []), (.int .i64 0)])) (.c (.int .i64 3))) (.o1 .ld1 (.o1 (.fld 1) (.t 1)))) (.o1 .ld1 (.o1 (.fld 4) (.t 1))))),
    (.eff [] none (.store 4) [(.t 2), (.t 25)] [])]) .ret) .skip)))))))) (.seq (.sts [(.chk [] (.c1 (.fld 1) (.t 1))),
    (.chk [] (.c1 .ld1 (.o1 (.fld 1) (.t 1)))),
    (.chk [] (.c1 (.fld 4) (.t 1))),
    (.chk [] (.c1 .ld1 (.o1 (.fld 4) (.t 1)))),
    (.chk [] (.cb 4 [(0, (1, (.c (.int .i64 4)))), (2, (1, (.o1 .ld1 (.o1 (.fld 1) (.t 1))))), (3, (1, (.o1 .ld1 (.o1 (.fld 4) (.t 1)))))])),
    (.set 30 (.o2 (.put 3 1) (.o2 (.put 2 1) (.o2 (.put 0 1) (.c (.agg #[(.int .i64 0), (.int .i64 0), (str []), (.int .i64 0)])) (.c (.int .i64 4))) (.o1 .ld1 (.o1 (.fld 1) (.t 1)))) (.o1 .ld1 (.o1 (.fld 4) (.t 1))))),
    (.eff [] none (.store 4) [(.t 2), (.t 30)] [])]) .ret)))
def rpTerm_E : Res := [((some (.c1 (.ldn 4) (.t 2))), (.o1 (.ldn 4) (.t 2)))]
theorem rpTerm_C : Tryz.f37.body.bind (comp Tryz.prog rpTerm_M Tryz.f37.ntmps) = some rpTerm_S := by kernel_rfl
theorem rpTerm_R : resE Tryz.prog rpTerm_M Tryz.f37.results.toList = some rpTerm_E := by kernel_rfl
theorem rpTerm_H (G : Ctr) (hG : GOk Tryz.prog G) (a0 : Value) {h : H} {K : Value → H → Prop} {KP : List PanicEntry → H → Prop} (Hw : wpS G rpTerm_S (retQ rpTerm_E (callK K KP)) (envOf 0 [a0] env0) h) : HCX Tryz.prog 37 [a0] h K KP :=
  .inl ⟨by kernel_rfl, hc_of mixed hG Tryz.func37 rpTerm_C rpTerm_R (of_decide_eq_true (by kernel_rfl)) Hw⟩
def rpAtom_M : Nat → Bool := fun i => Nat.testBit 17760301 i
def rpAtom_L1 : S :=
  (.seq (.sts [(.chk [] (.c2 (.bin .lss) (.t 18) (.t 17))),
    (.set 19 (.o2 (.bin .lss) (.t 18) (.t 17)))]) (.seq (.cond 19 .skip (.exit 0)) (.seq (.block 1 (.seq (.sts [(.chk [] (.c2 (.idxA 6) (.t 16) (.t 18))),
    (.chk [] (.c1 (.ldn 6) (.o2 (.idxA 6) (.t 16) (.t 18)))),
    (.set 21 (.o1 (.ldn 6) (.o2 (.idxA 6) (.t 16) (.t 18)))),
    (.eff [] (some 5) (.alloc 40 #[(.int .i64 0), (str []), (.int .i64 0), (.int .i64 0), (.int .i64 0), (.int .i64 0)]) [] []),
    (.eff [] none (.store 6) [(.t 5), (.t 21)] [])]) (.seq (.sts [(.chk [] (.c1 (.fld 0) (.t 5))),
    (.chk [] (.c1 .ld1 (.o1 (.fld 0) (.t 5)))),
    (.set 23 (.o1 .ld1 (.o1 (.fld 0) (.t 5)))),
    (.eff [] (some 24) (.call 36) [(.t 23)] [])]) (.cond 24 (.sts [(.chk [] (.c1 (.fld 1) (.t 3))),
    (.chk [] (.c1 .ld1 (.o1 (.fld 1) (.t 3)))),
    (.chk [] (.c1 (.ldn 6) (.t 5))),
    (.set 27 (.o1 (.ldn 6) (.t 5))),
    (.set 26 (.o1 .ld1 (.o1 (.fld 1) (.t 3)))),
    (.eff [] (some 28) (.call 37) [(.t 27)] [([], ((.o1 (.fld 1) (.t 3)), none))]),
    (.eff [] (some 29) (.bsl 53 4 1 [(.int .i64 0), (.int .i64 0), (str []), (.int .i64 0)] [0]) [(.t 28)] [([], ((.o1 (.fld 1) (.t 3)), none))]),
    (.eff [] (some 30) (.app 53 4 40 [(.int .i64 0), (.int .i64 0), (str []), (.int .i64 0)]) [(.t 26), (.t 29)] []),
    (.chk [] (.c1 (.fld 1) (.t 3))),
    (.eff [] none (.store 1) [(.o1 (.fld 1) (.t 3)), (.t 30)] [])]) .skip)))) (.sts [(.chk [] (.c2 (.bin .add) (.t 18) (.c (.int .i64 1)))),
    (.set 32 (.o2 (.bin .add) (.t 18) (.c (.int .i64 1)))),
    (.set 18 (.t 32))]))))
def rpAtom_S : S :=
  (.seq (.sts [(.eff [] (some 2) (.alloc 51 #[(str []), (.slice none 0 0), (.int .i64 0)]) [] [])]) (.seq (.sts [(.chk [] (.c2 (.idxA 6) (.t 0) (.c (.int .i64 0)))),
    (.chk [] (.c1 (.fld 1) (.o2 (.idxA 6) (.t 0) (.c (.int .i64 0))))),
    (.chk [] (.c1 .ld1 (.o1 (.fld 1) (.o2 (.idxA 6) (.t 0) (.c (.int .i64 0)))))),
    (.chk [] (.c2 (.idxA 6) (.t 0) (.c (.int .i64 0)))),
    (.chk [] (.c1 (.fld 4) (.o2 (.idxA 6) (.t 0) (.c (.int .i64 0))))),
    (.chk [] (.c1 .ld1 (.o1 (.fld 4) (.o2 (.idxA 6) (.t 0) (.c (.int .i64 0)))))),
    (.chk [] (.cb 3 [(0, (1, (.o1 .ld1 (.o1 (.fld 1) (.o2 (.idxA 6) (.t 0) (.c (.int .i64 0))))))), (2, (1, (.o1 .ld1 (.o1 (.fld 4) (.o2 (.idxA 6) (.t 0) (.c (.int .i64 0)))))))])),
    (.set 14 (.o2 (.put 2 1) (.o2 (.put 0 1) (.c (.agg #[(str []), (.slice none 0 0), (.int .i64 0)])) (.o1 .ld1 (.o1 (.fld 1) (.o2 (.idxA 6) (.t 0) (.c (.int .i64 0)))))) (.o1 .ld1 (.o1 (.fld 4) (.o2 (.idxA 6) (.t 0) (.c (.int .i64 0))))))),
    (.eff [] (some 3) (.alloc 51 #[(str []), (.slice none 0 0), (.int .i64 0)]) [] [([], ((.o1 (.fld 4) (.o2 (.idxA 6) (.t 0) (.c (.int .i64 0)))), none)), ([], ((.o1 (.fld 1) (.o2 (.idxA 6) (.t 0) (.c (.int .i64 0)))), none))]),
    (.eff [] none (.store 3) [(.t 3), (.t 14)] [])]) (.seq (.seq (.sts [(.chk [] (.c2 (.cutLo 6) (.t 0) (.c (.int .i64 1)))),
    (.set 16 (.o2 (.cutLo 6) (.t 0) (.c (.int .i64 1)))),
    (.chk [] (.c1 .len (.t 16))),
    (.set 17 (.o1 .len (.t 16))),
    (.set 18 (.c (.int .i64 0)))]) (.block 0 (.loop rpAtom_L1))) (.seq (.sts [(.chk [] (.c1 (.ldn 3) (.t 3))),
    (.set 33 (.o1 (.ldn 3) (.t 3))),
    (.eff [] none (.store 3) [(.t 2), (.t 33)] [])]) .ret))))
def rpAtom_E : Res := [((some (.c1 (.ldn 3) (.t 2))), (.o1 (.ldn 3) (.t 2)))]
theorem rpAtom_C : Tryz.f24.body.bind (comp Tryz.prog rpAtom_M Tryz.f24.ntmps) = some rpAtom_S := by kernel_rfl
theorem rpAtom_R : resE Tryz.prog rpAtom_M Tryz.f24.results.toList = some rpAtom_E := by kernel_rfl
theorem rpAtom_H (G : Ctr) (hG : GOk Tryz.prog G) (a0 : Value) {h : H} {K : Value → H → Prop} {KP : List PanicEntry → H → Prop} (Hw : wpS G rpAtom_S (retQ rpAtom_E (callK K KP)) (envOf 0 [a0] env0) h) : HCX Tryz.prog 24 [a0] h K KP :=
  .inl ⟨by kernel_rfl, hc_of mixed hG Tryz.func24 rpAtom_C rpAtom_R (of_decide_eq_true (by kernel_rfl)) Hw⟩
def rpLiteral_M : Nat → Bool := fun i => Nat.testBit 134221837 i
def rpLiteral_S : S :=
  (.seq (.sts [(.eff [] (some 2) (.alloc 55 #[(.int .i64 0), (str []), (.slice none 0 0), (.int .i64 0), (.int .i64 0), (.int .i64 0), (.int .i64 0), (str []), (.int .i64 0), (.int .i64 0), (.int .i64 0), (str []), (.int .i64 0), (.int .i64 0)]) [] [])]) (.seq (.sts [(.chk [] (.c2 (.idxA 6) (.t 0) (.c (.int .i64 0)))),
    (.chk [] (.c1 (.fld 4) (.o2 (.idxA 6) (.t 0) (.c (.int .i64 0))))),
    (.chk [] (.c1 .ld1 (.o1 (.fld 4) (.o2 (.idxA 6) (.t 0) (.c (.int .i64 0)))))),
    (.set 3 (.o1 .ld1 (.o1 (.fld 4) (.o2 (.idxA 6) (.t 0) (.c (.int .i64 0))))))]) (.seq (.seq (.sts [(.chk [] (.c2 (.idxA 6) (.t 0) (.c (.int .i64 0)))),
    (.chk [] (.c1 (.fld 0) (.o2 (.idxA 6) (.t 0) (.c (.int .i64 0))))),
    (.chk [] (.c1 .ld1 (.o1 (.fld 0) (.o2 (.idxA 6) (.t 0) (.c (.int .i64 0)))))),
    (.chk [] (.c2 (.bin .eql) (.o1 .ld1 (.o1 (.fld 0) (.o2 (.idxA 6) (.t 0) (.c (.int .i64 0))))) (.c (.int .i64 10)))),
    (.set 12 (.o2 (.bin .eql) (.o1 .ld1 (.o1 (.fld 0) (.o2 (.idxA 6) (.t 0) (.c (.int .i64 0))))) (.c (.int .i64 10))))]) (.cond 12 (.seq (.sts [(.chk [] (.c2 (.cutLo 6) (.t 0) (.c (.int .i64 1)))),
    (.eff [] (some 15) (.call 24) [(.o2 (.cutLo 6) (.t 0) (.c (.int .i64 1)))] []),
    (.chk [] (.cb 14 [(0, (1, (.c (.int .i64 2)))), (1, (3, (.t 15))), (13, (1, (.t 3)))])),
    (.eff [] none (.store 14) [(.t 2), (.o2 (.put 13 1) (.o2 (.put 1 3) (.o2 (.put 0 1) (.c (.agg #[(.int .i64 0), (str []), (.slice none 0 0), (.int .i64 0), (.int .i64 0), (.int .i64 0), (.int .i64 0), (str []), (.int .i64 0), (.int .i64 0), (.int .i64 0), (str []), (.int .i64 0), (.int .i64 0)])) (.c (.int .i64 2))) (.t 15)) (.t 3))] [])]) .ret) .skip)) (.seq (.seq (.sts [(.chk [] (.c1 .len (.t 0))),
    (.chk [] (.c2 (.bin .eql) (.o1 .len (.t 0)) (.c (.int .i64 3)))),
    (.chk [((.o2 (.bin .eql) (.o1 .len (.t 0)) (.c (.int .i64 3))), true)] (.c2 (.idxA 6) (.t 0) (.c (.int .i64 1)))),
    (.chk [((.o2 (.bin .eql) (.o1 .len (.t 0)) (.c (.int .i64 3))), true)] (.c1 (.fld 0) (.o2 (.idxA 6) (.t 0) (.c (.int .i64 1))))),
    (.chk [((.o2 (.bin .eql) (.o1 .len (.t 0)) (.c (.int .i64 3))), true)] (.c1 .ld1 (.o1 (.fld 0) (.o2 (.idxA 6) (.t 0) (.c (.int .i64 1)))))),
    (.chk [((.o2 (.bin .eql) (.o1 .len (.t 0)) (.c (.int .i64 3))), true)] (.c2 (.bin .eql) (.o1 .ld1 (.o1 (.fld 0) (.o2 (.idxA 6) (.t 0) (.c (.int .i64 1))))) (.c (.int .i64 11)))),
    (.chk [] (.c3 .pick (.o2 (.bin .eql) (.o1 .len (.t 0)) (.c (.int .i64 3))) (.o2 (.bin .eql) (.o1 .ld1 (.o1 (.fld 0) (.o2 (.idxA 6) (.t 0) (.c (.int .i64 1))))) (.c (.int .i64 11))) (.c (.bool false)))),
    (.set 27 (.o3 .pick (.o2 (.bin .eql) (.o1 .len (.t 0)) (.c (.int .i64 3))) (.o2 (.bin .eql) (.o1 .ld1 (.o1 (.fld 0) (.o2 (.idxA 6) (.t 0) (.c (.int .i64 1))))) (.c (.int .i64 11))) (.c (.bool false))))]) (.cond 27 (.seq (.sts [(.chk [] (.c2 (.idxA 6) (.t 0) (.c (.int .i64 1)))),
    (.chk [] (.c1 (.fld 3) (.o2 (.idxA 6) (.t 0) (.c (.int .i64 1))))),
    (.chk [] (.c1 .ld1 (.o1 (.fld 3) (.o2 (.idxA 6) (.t 0) (.c (.int .i64 1)))))),
    (.chk [] (.c2 (.idxA 6) (.t 0) (.c (.int .i64 0)))),
    (.chk [] (.c1 (.ldn 6) (.o2 (.idxA 6) (.t 0) (.c (.int .i64 0))))),
    (.chk [] (.c2 (.idxA 6) (.t 0) (.c (.int .i64 2)))),
    (.chk [] (.c1 (.ldn 6) (.o2 (.idxA 6) (.t 0) (.c (.int .i64 2))))),
    (.set 38 (.o1 (.ldn 6) (.o2 (.idxA 6) (.t 0) (.c (.int .i64 2))))),
    (.set 34 (.o1 (.ldn 6) (.o2 (.idxA 6) (.t 0) (.c (.int .i64 0))))),
    (.set 31 (.o1 .ld1 (.o1 (.fld 3) (.o2 (.idxA 6) (.t 0) (.c (.int .i64 1)))))),
    (.eff [] (some 35) (.call 37) [(.t 34)] [([], ((.o2 (.idxA 6) (.t 0) (.c (.int .i64 2))), (some 6))), ([], ((.o1 (.fld 3) (.o2 (.idxA 6) (.t 0) (.c (.int .i64 1)))), none))]),
    (.eff [] (some 39) (.call 37) [(.t 38)] [([], ((.o1 (.fld 3) (.o2 (.idxA 6) (.t 0) (.c (.int .i64 1)))), none))]),
    (.chk [] (.cb 14 [(0, (1, (.c (.int .i64 3)))), (4, (1, (.t 31))), (5, (4, (.t 35))), (9, (4, (.t 39))), (13, (1, (.t 3)))])),
    (.eff [] none (.store 14) [(.t 2), (.o2 (.put 13 1) (.o2 (.put 9 4) (.o2 (.put 5 4) (.o2 (.put 4 1) (.o2 (.put 0 1) (.c (.agg #[(.int .i64 0), (str []), (.slice none 0 0), (.int .i64 0), (.int .i64 0), (.int .i64 0), (.int .i64 0), (str []), (.int .i64 0), (.int .i64 0), (.int .i64 0), (str []), (.int .i64 0), (.int .i64 0)])) (.c (.int .i64 3))) (.t 31)) (.t 35)) (.t 39)) (.t 3))] [])]) .ret) .skip)) (.seq (.sts [(.eff [] (some 43) (.call 24) [(.t 0)] []),
    (.chk [] (.cb 14 [(0, (1, (.c (.int .i64 1)))), (1, (3, (.t 43))), (13, (1, (.t 3)))])),
    (.eff [] none (.store 14) [(.t 2), (.o2 (.put 13 1) (.o2 (.put 1 3) (.o2 (.put 0 1) (.c (.agg #[(.int .i64 0), (str []), (.slice none 0 0), (.int .i64 0), (.int .i64 0), (.int .i64 0), (.int .i64 0), (str []), (.int .i64 0), (.int .i64 0), (.int .i64 0), (str []), (.int .i64 0), (.int .i64 0)])) (.c (.int .i64 1))) (.t 43)) (.t 3))] [])]) .ret)))))
def rpLiteral_E : Res := [((some (.c1 (.ldn 14) (.t 2))), (.o1 (.ldn 14) (.t 2)))]
theorem rpLiteral_C : Tryz.f34.body.bind (comp Tryz.prog rpLiteral_M Tryz.f34.ntmps) = some rpLiteral_S := by kernel_rfl
theorem rpLiteral_R : resE Tryz.prog rpLiteral_M Tryz.f34.results.toList = some rpLiteral_E := by kernel_rfl
theorem rpLiteral_H (G : Ctr) (hG : GOk Tryz.prog G) (a0 : Value) {h : H} {K : Value → H → Prop} {KP : List PanicEntry → H → Prop} (Hw : wpS G rpLiteral_S (retQ rpLiteral_E (callK K KP)) (envOf 0 [a0] env0) h) : HCX Tryz.prog 34 [a0] h K KP :=
  .inl ⟨by kernel_rfl, hc_of mixed hG Tryz.func34 rpLiteral_C rpLiteral_R (of_decide_eq_true (by kernel_rfl)) Hw⟩
def rpBody_M : Nat → Bool := fun i => Nat.testBit 1965 i
def rpBody_L1 : S :=
  (.seq (.sts [(.chk [] (.c2 (.bin .lss) (.t 9) (.t 8))),
    (.set 10 (.o2 (.bin .lss) (.t 9) (.t 8)))]) (.seq (.cond 10 .skip (.exit 0)) (.seq (.block 1 (.seq (.sts [(.chk [] (.c2 (.idxA 1) (.t 7) (.t 9))),
    (.chk [] (.c1 .ld1 (.o2 (.idxA 1) (.t 7) (.t 9)))),
    (.set 5 (.o1 .ld1 (.o2 (.idxA 1) (.t 7) (.t 9))))]) (.sts [(.eff [] (some 15) (.call 34) [(.t 5)] []),
    (.eff [] (some 16) (.bsl 55 14 1 [(.int .i64 0), (str []), (.slice none 0 0), (.int .i64 0), (.int .i64 0), (.int .i64 0), (.int .i64 0), (str []), (.int .i64 0), (.int .i64 0), (.int .i64 0), (str []), (.int .i64 0), (.int .i64 0)] [0]) [(.t 15)] []),
    (.eff [] (some 17) (.app 55 14 152 [(.int .i64 0), (str []), (.slice none 0 0), (.int .i64 0), (.int .i64 0), (.int .i64 0), (.int .i64 0), (str []), (.int .i64 0), (.int .i64 0), (.int .i64 0), (str []), (.int .i64 0), (.int .i64 0)]) [(.t 3), (.t 16)] []),
    (.set 3 (.t 17))]))) (.sts [(.chk [] (.c2 (.bin .add) (.t 9) (.c (.int .i64 1)))),
    (.set 18 (.o2 (.bin .add) (.t 9) (.c (.int .i64 1)))),
    (.set 9 (.t 18))]))))
def rpBody_S : S :=
  (.seq (.sts [(.set 2 (.c (.slice none 0 0)))]) (.seq (.sts [(.set 3 (.c (.slice none 0 0)))]) (.seq (.seq (.sts [(.eff [] (some 7) (.call 23) [(.t 0), (.c (.int .i64 7))] []),
    (.chk [] (.c1 .len (.t 7))),
    (.set 8 (.o1 .len (.t 7))),
    (.set 9 (.c (.int .i64 0)))]) (.block 0 (.loop rpBody_L1))) (.seq (.sts [(.set 2 (.t 3))]) .ret))))
def rpBody_E : Res := [(none, (.t 2))]
theorem rpBody_C : Tryz.f16.body.bind (comp Tryz.prog rpBody_M Tryz.f16.ntmps) = some rpBody_S := by kernel_rfl
theorem rpBody_R : resE Tryz.prog rpBody_M Tryz.f16.results.toList = some rpBody_E := by kernel_rfl
theorem rpBody_H (G : Ctr) (hG : GOk Tryz.prog G) (a0 : Value) {h : H} {K : Value → H → Prop} {KP : List PanicEntry → H → Prop} (Hw : wpS G rpBody_S (retQ rpBody_E (callK K KP)) (envOf 0 [a0] env0) h) : HCX Tryz.prog 16 [a0] h K KP :=
  .inl ⟨by kernel_rfl, hc_of mixed hG Tryz.func16 rpBody_C rpBody_R (of_decide_eq_true (by kernel_rfl)) Hw⟩
def rpSentences_M : Nat → Bool := fun i => Nat.testBit 13 i
def rpSentences_S : S :=
  (.seq (.sts [(.set 2 (.c (.slice none 0 0)))]) (.seq (.sts [(.eff [] (some 5) (.call 23) [(.t 0), (.c (.int .i64 8))] []),
    (.set 3 (.t 5))]) (.seq (.sts [(.chk [] (.c1 .len (.t 3))),
    (.chk [] (.c2 (.bin .sub) (.o1 .len (.t 3)) (.c (.int .i64 1)))),
    (.chk [] (.c2 (.cutHi 1) (.t 3) (.o2 (.bin .sub) (.o1 .len (.t 3)) (.c (.int .i64 1))))),
    (.set 2 (.o2 (.cutHi 1) (.t 3) (.o2 (.bin .sub) (.o1 .len (.t 3)) (.c (.int .i64 1)))))]) .ret)))
def rpSentences_E : Res := [(none, (.t 2))]
theorem rpSentences_C : Tryz.f17.body.bind (comp Tryz.prog rpSentences_M Tryz.f17.ntmps) = some rpSentences_S := by kernel_rfl
theorem rpSentences_R : resE Tryz.prog rpSentences_M Tryz.f17.results.toList = some rpSentences_E := by kernel_rfl
theorem rpSentences_H (G : Ctr) (hG : GOk Tryz.prog G) (a0 : Value) {h : H} {K : Value → H → Prop} {KP : List PanicEntry → H → Prop} (Hw : wpS G rpSentences_S (retQ rpSentences_E (callK K KP)) (envOf 0 [a0] env0) h) : HCX Tryz.prog 17 [a0] h K KP :=
  .inl ⟨by kernel_rfl, hc_of mixed hG Tryz.func17 rpSentences_C rpSentences_R (of_decide_eq_true (by kernel_rfl)) Hw⟩
def rpProgram_M : Nat → Bool := fun i => Nat.testBit 137502132093 i
def rpProgram_L1 : S :=
  (.seq (.sts [(.chk [] (.c2 (.bin .lss) (.t 24) (.t 23))),
    (.set 25 (.o2 (.bin .lss) (.t 24) (.t 23)))]) (.seq (.cond 25 .skip (.exit 0)) (.seq (.block 1 (.seq (.sts [(.chk [] (.c2 (.idxA 1) (.t 22) (.t 24))),
    (.chk [] (.c1 .ld1 (.o2 (.idxA 1) (.t 22) (.t 24)))),
    (.set 8 (.o1 .ld1 (.o2 (.idxA 1) (.t 22) (.t 24))))]) (.seq (.sts [(.eff [] (some 29) (.call 23) [(.t 8), (.c (.int .i64 9))] []),
    (.set 9 (.t 29))]) (.seq (.sts [(.chk [] (.c2 (.idxA 1) (.t 9) (.c (.int .i64 0)))),
    (.chk [] (.c1 .ld1 (.o2 (.idxA 1) (.t 9) (.c (.int .i64 0))))),
    (.set 32 (.o1 .ld1 (.o2 (.idxA 1) (.t 9) (.c (.int .i64 0))))),
    (.eff [] (some 33) (.call 24) [(.t 32)] []),
    (.chk [] (.cb 4 [(0, (3, (.t 33)))])),
    (.eff [] (some 10) (.alloc 60 #[(str []), (.slice none 0 0), (.int .i64 0), (.slice none 0 0)]) [] []),
    (.eff [] none (.store 4) [(.t 10), (.o2 (.put 0 3) (.c (.agg #[(str []), (.slice none 0 0), (.int .i64 0), (.slice none 0 0)])) (.t 33))] [])]) (.seq (.seq (.sts [(.chk [] (.c1 .len (.t 9))),
    (.chk [] (.c2 (.bin .eql) (.o1 .len (.t 9)) (.c (.int .i64 2)))),
    (.set 37 (.o2 (.bin .eql) (.o1 .len (.t 9)) (.c (.int .i64 2))))]) (.cond 37 (.sts [(.chk [] (.c2 (.idxA 1) (.t 9) (.c (.int .i64 1)))),
    (.chk [] (.c1 .ld1 (.o2 (.idxA 1) (.t 9) (.c (.int .i64 1))))),
    (.set 40 (.o1 .ld1 (.o2 (.idxA 1) (.t 9) (.c (.int .i64 1))))),
    (.eff [] (some 41) (.call 16) [(.t 40)] []),
    (.chk [] (.c1 (.fld 3) (.t 10))),
    (.eff [] none (.store 1) [(.o1 (.fld 3) (.t 10)), (.t 41)] [])]) .skip)) (.sts [(.chk [] (.c1 (.fld 0) (.t 6))),
    (.chk [] (.c1 .ld1 (.o1 (.fld 0) (.t 6)))),
    (.chk [] (.c1 (.ldn 4) (.t 10))),
    (.set 45 (.o1 (.ldn 4) (.t 10))),
    (.set 44 (.o1 .ld1 (.o1 (.fld 0) (.t 6)))),
    (.eff [] (some 46) (.bsl 60 4 1 [(str []), (.slice none 0 0), (.int .i64 0), (.slice none 0 0)] [0]) [(.t 45)] []),
    (.eff [] (some 47) (.app 60 4 72 [(str []), (.slice none 0 0), (.int .i64 0), (.slice none 0 0)]) [(.t 44), (.t 46)] []),
    (.chk [] (.c1 (.fld 0) (.t 6))),
    (.eff [] none (.store 1) [(.o1 (.fld 0) (.t 6)), (.t 47)] [])])))))) (.sts [(.chk [] (.c2 (.bin .add) (.t 24) (.c (.int .i64 1)))),
    (.set 49 (.o2 (.bin .add) (.t 24) (.c (.int .i64 1)))),
    (.set 24 (.t 49))]))))
def rpProgram_S : S :=
  (.seq (.sts [(.eff [] (some 2) (.alloc 32 #[(.slice none 0 0)]) [] []),
    (.eff [] (some 3) (.alloc 25 #[(.int .i64 0), (.int .i64 0), (.int .i64 0)]) [] [])]) (.seq (.sts [(.eff [] (some 13) (.call 15) [(.t 0), (.c (.int .i64 0))] []),
    (.chk [] (.c1 (.ext 0) (.t 13))),
    (.chk [] (.c1 (.ext 1) (.t 13))),
    (.eff [] (some 5) (.alloc 25 #[(.int .i64 0), (.int .i64 0), (.int .i64 0)]) [] []),
    (.set 4 (.o1 (.ext 0) (.t 13))),
    (.eff [] none (.store 3) [(.t 5), (.o1 (.ext 1) (.t 13))] [])]) (.seq (.seq (.sts [(.chk [] (.c1 (.fld 0) (.t 5))),
    (.chk [] (.c1 .ld1 (.o1 (.fld 0) (.t 5)))),
    (.chk [] (.c2 (.bin .neq) (.o1 .ld1 (.o1 (.fld 0) (.t 5))) (.c (.int .i64 0)))),
    (.set 18 (.o2 (.bin .neq) (.o1 .ld1 (.o1 (.fld 0) (.t 5))) (.c (.int .i64 0))))]) (.cond 18 (.seq (.sts [(.chk [] (.cb 1 [])),
    (.chk [] (.c1 (.ldn 3) (.t 5))),
    (.set 20 (.o1 (.ldn 3) (.t 5))),
    (.eff [] none (.store 1) [(.t 2), (.c (.agg #[(.slice none 0 0)]))] [([], ((.t 5), (some 3)))]),
    (.eff [] none (.store 3) [(.t 3), (.t 20)] [])]) .ret) .skip)) (.seq (.sts [(.eff [] (some 6) (.alloc 32 #[(.slice none 0 0)]) [] [])]) (.seq (.seq (.sts [(.eff [] (some 22) (.call 17) [(.t 4)] []),
    (.chk [] (.c1 .len (.t 22))),
    (.set 23 (.o1 .len (.t 22))),
    (.set 24 (.c (.int .i64 0)))]) (.block 0 (.loop rpProgram_L1))) (.seq (.sts [(.chk [] (.c1 (.ldn 1) (.t 6))),
    (.chk [] (.cb 3 [])),
    (.set 50 (.o1 (.ldn 1) (.t 6))),
    (.eff [] none (.store 1) [(.t 2), (.t 50)] []),
    (.eff [] none (.store 3) [(.t 3), (.c (.agg #[(.int .i64 0), (.int .i64 0), (.int .i64 0)]))] [])]) .ret))))))
def rpProgram_E : Res := [((some (.c1 (.ldn 1) (.t 2))), (.o1 (.ldn 1) (.t 2))), ((some (.c1 (.ldn 3) (.t 3))), (.o1 (.ldn 3) (.t 3)))]
theorem rpProgram_C : Tryz.f9.body.bind (comp Tryz.prog rpProgram_M Tryz.f9.ntmps) = some rpProgram_S := by kernel_rfl
theorem rpProgram_R : resE Tryz.prog rpProgram_M Tryz.f9.results.toList = some rpProgram_E := by kernel_rfl
theorem rpProgram_H (G : Ctr) (hG : GOk Tryz.prog G) (a0 : Value) {h : H} {K : Value → H → Prop} {KP : List PanicEntry → H → Prop} (Hw : wpS G rpProgram_S (retQ rpProgram_E (callK K KP)) (envOf 0 [a0] env0) h) : HCX Tryz.prog 9 [a0] h K KP :=
  .inl ⟨by kernel_rfl, hc_of mixed hG Tryz.func9 rpProgram_C rpProgram_R (of_decide_eq_true (by kernel_rfl)) Hw⟩
def rpQuery_M : Nat → Bool := fun i => Nat.testBit 8253 i
def rpQuery_S : S :=
  (.seq (.sts [(.set 2 (.c (.slice none 0 0))),
    (.eff [] (some 3) (.alloc 25 #[(.int .i64 0), (.int .i64 0), (.int .i64 0)]) [] [])]) (.seq (.sts [(.eff [] (some 8) (.call 15) [(.t 0), (.c (.int .i64 5))] []),
    (.chk [] (.c1 (.ext 0) (.t 8))),
    (.chk [] (.c1 (.ext 1) (.t 8))),
    (.eff [] (some 5) (.alloc 25 #[(.int .i64 0), (.int .i64 0), (.int .i64 0)]) [] []),
    (.set 4 (.o1 (.ext 0) (.t 8))),
    (.eff [] none (.store 3) [(.t 5), (.o1 (.ext 1) (.t 8))] [])]) (.seq (.seq (.sts [(.chk [] (.c1 (.fld 0) (.t 5))),
    (.chk [] (.c1 .ld1 (.o1 (.fld 0) (.t 5)))),
    (.chk [] (.c2 (.bin .neq) (.o1 .ld1 (.o1 (.fld 0) (.t 5))) (.c (.int .i64 0)))),
    (.set 13 (.o2 (.bin .neq) (.o1 .ld1 (.o1 (.fld 0) (.t 5))) (.c (.int .i64 0))))]) (.cond 13 (.seq (.sts [(.chk [] (.c1 (.ldn 3) (.t 5))),
    (.set 2 (.c (.slice none 0 0))),
    (.set 14 (.o1 (.ldn 3) (.t 5))),
    (.eff [] none (.store 3) [(.t 3), (.t 14)] [])]) .ret) .skip)) (.seq (.sts [(.eff [] (some 16) (.call 17) [(.t 4)] []),
    (.chk [] (.c2 (.idxA 1) (.t 16) (.c (.int .i64 0)))),
    (.chk [] (.c1 .ld1 (.o2 (.idxA 1) (.t 16) (.c (.int .i64 0))))),
    (.set 18 (.o1 .ld1 (.o2 (.idxA 1) (.t 16) (.c (.int .i64 0))))),
    (.eff [] (some 19) (.call 16) [(.t 18)] []),
    (.chk [] (.cb 3 [])),
    (.set 2 (.t 19)),
    (.eff [] none (.store 3) [(.t 3), (.c (.agg #[(.int .i64 0), (.int .i64 0), (.int .i64 0)]))] [])]) .ret))))
def rpQuery_E : Res := [(none, (.t 2)), ((some (.c1 (.ldn 3) (.t 3))), (.o1 (.ldn 3) (.t 3)))]
theorem rpQuery_C : Tryz.f6.body.bind (comp Tryz.prog rpQuery_M Tryz.f6.ntmps) = some rpQuery_S := by kernel_rfl
theorem rpQuery_R : resE Tryz.prog rpQuery_M Tryz.f6.results.toList = some rpQuery_E := by kernel_rfl
theorem rpQuery_H (G : Ctr) (hG : GOk Tryz.prog G) (a0 : Value) {h : H} {K : Value → H → Prop} {KP : List PanicEntry → H → Prop} (Hw : wpS G rpQuery_S (retQ rpQuery_E (callK K KP)) (envOf 0 [a0] env0) h) : HCX Tryz.prog 6 [a0] h K KP :=
  .inl ⟨by kernel_rfl, hc_of mixed hG Tryz.func6 rpQuery_C rpQuery_R (of_decide_eq_true (by kernel_rfl)) Hw⟩
end Go.Proofs.YtmnfhmbmifompaaGreatDoor
