/- The small statements of functions of the program, as the closed computation gives them (written by a program of ours; checked by the kernel below). -/
import Derived.Test.YtbkpmdgeeolifaaDoorEvB
import Derived.Test.YtbkpmdgeeolifaaDoorProg
import Derived.KernelRfl
import Derived.Test.YtbkpmdgeeolifaaDoorGapS
namespace Go.Proofs.YtbkpmdgeeolifaaDoor
open Go Go.Ev
def stCount_M : Nat → Bool := fun i => Nat.testBit 16810611 i
def stCount_L1 : S :=
  (.block 1 (.seq (.sts [(.eff [] (some 22) (.call 91) [(.t 0), (.t 1)] []),
    (.set 6 (.t 22))]) (.seq (.seq (.sts [(.chk [] (.c2 (.bin .eql) (.t 6) (.c (.int .i64 (-1))))),
    (.set 24 (.o2 (.bin .eql) (.t 6) (.c (.int .i64 (-1)))))]) (.cond 24 (.seq (.sts [(.set 4 (.t 5))]) .ret) .skip)) (.seq (.sts [(.chk [] (.c2 (.bin .add) (.t 5) (.c (.int .i64 1)))),
    (.set 27 (.o2 (.bin .add) (.t 5) (.c (.int .i64 1)))),
    (.set 5 (.t 27))]) (.sts [(.chk [] (.c1 .lens (.t 1))),
    (.chk [] (.c2 (.bin .add) (.t 6) (.o1 .lens (.t 1)))),
    (.chk [] (.c2 .subLo (.t 0) (.o2 (.bin .add) (.t 6) (.o1 .lens (.t 1))))),
    (.set 33 (.o2 .subLo (.t 0) (.o2 (.bin .add) (.t 6) (.o1 .lens (.t 1))))),
    (.set 0 (.t 33))])))))
def stCount_S : S :=
  (.seq (.sts [(.set 4 (.c (.int .i64 0)))]) (.seq (.seq (.sts [(.chk [] (.c1 .lens (.t 1))),
    (.chk [] (.c2 (.bin .eql) (.o1 .lens (.t 1)) (.c (.int .i64 0)))),
    (.set 9 (.o2 (.bin .eql) (.o1 .lens (.t 1)) (.c (.int .i64 0))))]) (.cond 9 (.seq (.sts [(.eff [] (some 11) (.call 89) [(.t 0)] []),
    (.chk [] (.c2 (.bin .add) (.t 11) (.c (.int .i64 1)))),
    (.set 4 (.o2 (.bin .add) (.t 11) (.c (.int .i64 1))))]) .ret) .skip)) (.seq (.seq (.sts [(.chk [] (.c1 .lens (.t 1))),
    (.chk [] (.c2 (.bin .eql) (.o1 .lens (.t 1)) (.c (.int .i64 1)))),
    (.set 15 (.o2 (.bin .eql) (.o1 .lens (.t 1)) (.c (.int .i64 1))))]) (.cond 15 (.seq (.sts [(.chk [] (.c2 .idxS (.t 1) (.c (.int .i64 0)))),
    (.eff [] (some 19) (.call 90) [(.t 0), (.o2 .idxS (.t 1) (.c (.int .i64 0)))] []),
    (.set 4 (.t 19))]) .ret) .skip)) (.seq (.sts [(.set 5 (.c (.int .i64 0)))]) (.block 0 (.loop stCount_L1))))))
def stCount_E : Res := [(none, (.t 4))]
theorem stCount_C : Tryd.f78.body.bind (comp Tryd.prog stCount_M Tryd.f78.ntmps) = some stCount_S := by kernel_rfl
theorem stCount_R : resE Tryd.prog stCount_M Tryd.f78.results.toList = some stCount_E := by kernel_rfl
theorem stCount_H (G : Ctr) (hG : GOk Tryd.prog G) (a0 : Value) (a1 : Value) {h : H} {K : Value → H → Prop} {KP : List PanicEntry → H → Prop} (Hw : wpS G stCount_S (retQ stCount_E (callK K KP)) (envOf 0 [a0, a1] env0) h) : HCX Tryd.prog 78 [a0, a1] h K KP :=
  .inl ⟨by kernel_rfl, hc_of mixed hG Tryd.func78 stCount_C stCount_R (of_decide_eq_true (by kernel_rfl)) Hw⟩
def stLastIndexByte_M : Nat → Bool := fun i => Nat.testBit 19 i
def stLastIndexByte_S : S :=
  (.seq (.sts [(.set 4 (.c (.int .i64 0)))]) (.seq (.sts [(.eff [] (some 7) (.call 92) [(.t 0), (.t 1)] []),
    (.set 4 (.t 7))]) .ret))
def stLastIndexByte_E : Res := [(none, (.t 4))]
theorem stLastIndexByte_C : Tryd.f79.body.bind (comp Tryd.prog stLastIndexByte_M Tryd.f79.ntmps) = some stLastIndexByte_S := by kernel_rfl
theorem stLastIndexByte_R : resE Tryd.prog stLastIndexByte_M Tryd.f79.results.toList = some stLastIndexByte_E := by kernel_rfl
theorem stLastIndexByte_H (G : Ctr) (hG : GOk Tryd.prog G) (a0 : Value) (a1 : Value) {h : H} {K : Value → H → Prop} {KP : List PanicEntry → H → Prop} (Hw : wpS G stLastIndexByte_S (retQ stLastIndexByte_E (callK K KP)) (envOf 0 [a0, a1] env0) h) : HCX Tryd.prog 79 [a0, a1] h K KP :=
  .inl ⟨by kernel_rfl, hc_of mixed hG Tryd.func79 stLastIndexByte_C stLastIndexByte_R (of_decide_eq_true (by kernel_rfl)) Hw⟩
def baLastIndexByteString_M : Nat → Bool := fun i => Nat.testBit 132147 i
def baLastIndexByteString_L1 : S :=
  (.seq (.seq (.sts [(.chk [] (.c2 (.bin .geq) (.t 5) (.c (.int .i64 0)))),
    (.set 10 (.o2 (.bin .geq) (.t 5) (.c (.int .i64 0))))]) (.cond 10 .skip (.exit 0))) (.seq (.block 1 (.seq (.sts [(.chk [] (.c2 .idxS (.t 0) (.t 5))),
    (.chk [] (.c2 (.bin .eql) (.o2 .idxS (.t 0) (.t 5)) (.t 1))),
    (.set 17 (.o2 (.bin .eql) (.o2 .idxS (.t 0) (.t 5)) (.t 1)))]) (.cond 17 (.seq (.sts [(.set 4 (.t 5))]) .ret) .skip))) (.sts [(.chk [] (.c2 (.bin .sub) (.t 5) (.c (.int .i64 1)))),
    (.set 12 (.o2 (.bin .sub) (.t 5) (.c (.int .i64 1)))),
    (.set 5 (.t 12))])))
def baLastIndexByteString_S : S :=
  (.seq (.sts [(.set 4 (.c (.int .i64 0)))]) (.seq (.seq (.sts [(.chk [] (.c1 .lens (.t 0))),
    (.chk [] (.c2 (.bin .sub) (.o1 .lens (.t 0)) (.c (.int .i64 1)))),
    (.set 5 (.o2 (.bin .sub) (.o1 .lens (.t 0)) (.c (.int .i64 1))))]) (.block 0 (.loop baLastIndexByteString_L1))) (.seq (.sts [(.set 4 (.c (.int .i64 (-1))))]) .ret)))
def baLastIndexByteString_E : Res := [(none, (.t 4))]
theorem baLastIndexByteString_C : Tryd.f92.body.bind (comp Tryd.prog baLastIndexByteString_M Tryd.f92.ntmps) = some baLastIndexByteString_S := by kernel_rfl
theorem baLastIndexByteString_R : resE Tryd.prog baLastIndexByteString_M Tryd.f92.results.toList = some baLastIndexByteString_E := by kernel_rfl
theorem baLastIndexByteString_H (G : Ctr) (hG : GOk Tryd.prog G) (a0 : Value) (a1 : Value) {h : H} {K : Value → H → Prop} {KP : List PanicEntry → H → Prop} (Hw : wpS G baLastIndexByteString_S (retQ baLastIndexByteString_E (callK K KP)) (envOf 0 [a0, a1] env0) h) : HCX Tryd.prog 92 [a0, a1] h K KP :=
  .inl ⟨by kernel_rfl, hc_of mixed hG Tryd.func92 baLastIndexByteString_C baLastIndexByteString_R (of_decide_eq_true (by kernel_rfl)) Hw⟩
def lxPlace_M : Nat → Bool := fun i => Nat.testBit 524403 i
def lxPlace_S : S :=
  (.seq (.sts [(.set 4 (.c (.int .i64 0))),
    (.set 5 (.c (.int .i64 0)))]) (.seq (.seq (.sts [(.chk [] (.c1 .lens (.t 0))),
    (.chk [] (.c2 (.bin .gtr) (.o1 .lens (.t 0)) (.c (.int .i64 65536)))),
    (.chk [((.o2 (.bin .gtr) (.o1 .lens (.t 0)) (.c (.int .i64 65536))), false)] (.c2 (.bin .lss) (.t 1) (.c (.int .i64 0)))),
    (.chk [] (.c3 .pick (.o2 (.bin .gtr) (.o1 .lens (.t 0)) (.c (.int .i64 65536))) (.c (.bool true)) (.o2 (.bin .lss) (.t 1) (.c (.int .i64 0))))),
    (.chk [((.o3 .pick (.o2 (.bin .gtr) (.o1 .lens (.t 0)) (.c (.int .i64 65536))) (.c (.bool true)) (.o2 (.bin .lss) (.t 1) (.c (.int .i64 0)))), false)] (.c1 .lens (.t 0))),
    (.chk [((.o3 .pick (.o2 (.bin .gtr) (.o1 .lens (.t 0)) (.c (.int .i64 65536))) (.c (.bool true)) (.o2 (.bin .lss) (.t 1) (.c (.int .i64 0)))), false)] (.c2 (.bin .gtr) (.t 1) (.o1 .lens (.t 0)))),
    (.chk [] (.c3 .pick (.o3 .pick (.o2 (.bin .gtr) (.o1 .lens (.t 0)) (.c (.int .i64 65536))) (.c (.bool true)) (.o2 (.bin .lss) (.t 1) (.c (.int .i64 0)))) (.c (.bool true)) (.o2 (.bin .gtr) (.t 1) (.o1 .lens (.t 0))))),
    (.set 19 (.o3 .pick (.o3 .pick (.o2 (.bin .gtr) (.o1 .lens (.t 0)) (.c (.int .i64 65536))) (.c (.bool true)) (.o2 (.bin .lss) (.t 1) (.c (.int .i64 0)))) (.c (.bool true)) (.o2 (.bin .gtr) (.t 1) (.o1 .lens (.t 0)))))]) (.cond 19 (.seq (.sts [(.set 4 (.c (.int .i64 0))),
    (.set 5 (.c (.int .i64 0)))]) .ret) .skip)) (.seq (.sts [(.chk [] (.c2 .subHi (.t 0) (.t 1))),
    (.set 6 (.o2 .subHi (.t 0) (.t 1)))]) (.seq (.sts [(.eff [] (some 24) (.call 78) [(.t 6), (.c (str [10]))] []),
    (.chk [] (.c2 (.bin .add) (.c (.int .i64 1)) (.t 24))),
    (.eff [] (some 28) (.call 79) [(.t 6), (.c (.int .u8 10))] []),
    (.chk [] (.c2 (.bin .sub) (.t 1) (.t 28))),
    (.set 4 (.o2 (.bin .add) (.c (.int .i64 1)) (.t 24))),
    (.set 5 (.o2 (.bin .sub) (.t 1) (.t 28)))]) .ret))))
def lxPlace_E : Res := [(none, (.t 4)), (none, (.t 5))]
theorem lxPlace_C : Tryd.f66.body.bind (comp Tryd.prog lxPlace_M Tryd.f66.ntmps) = some lxPlace_S := by kernel_rfl
theorem lxPlace_R : resE Tryd.prog lxPlace_M Tryd.f66.results.toList = some lxPlace_E := by kernel_rfl
theorem lxPlace_H (G : Ctr) (hG : GOk Tryd.prog G) (a0 : Value) (a1 : Value) {h : H} {K : Value → H → Prop} {KP : List PanicEntry → H → Prop} (Hw : wpS G lxPlace_S (retQ lxPlace_E (callK K KP)) (envOf 0 [a0, a1] env0) h) : HCX Tryd.prog 66 [a0, a1] h K KP :=
  .inl ⟨by kernel_rfl, hc_of mixed hG Tryd.func66 lxPlace_C lxPlace_R (of_decide_eq_true (by kernel_rfl)) Hw⟩
def rfPlace_M : Nat → Bool := fun i => Nat.testBit 4313842163 i
def rfPlace_L1 : S :=
  (.seq (.seq (.sts [(.chk [] (.c2 (.bin .lss) (.t 8) (.t 1))),
    (.set 24 (.o2 (.bin .lss) (.t 8) (.t 1)))]) (.cond 24 .skip (.exit 0))) (.seq (.block 1 (.seq (.sts [(.chk [] (.c2 (.bin .add) (.t 7) (.c (.int .i64 1)))),
    (.set 28 (.o2 (.bin .add) (.t 7) (.c (.int .i64 1)))),
    (.set 7 (.t 28))]) (.seq (.sts [(.chk [] (.c2 .idxS (.t 0) (.t 8))),
    (.chk [] (.c2 (.bin .eql) (.o2 .idxS (.t 0) (.t 8)) (.c (.int .u8 10)))),
    (.set 32 (.o2 (.bin .eql) (.o2 .idxS (.t 0) (.t 8)) (.c (.int .u8 10))))]) (.cond 32 (.seq (.sts [(.chk [] (.c2 (.bin .add) (.t 6) (.c (.int .i64 1)))),
    (.set 34 (.o2 (.bin .add) (.t 6) (.c (.int .i64 1)))),
    (.set 6 (.t 34))]) (.sts [(.set 7 (.c (.int .i64 1)))])) .skip)))) (.sts [(.chk [] (.c2 (.bin .add) (.t 8) (.c (.int .i64 1)))),
    (.set 26 (.o2 (.bin .add) (.t 8) (.c (.int .i64 1)))),
    (.set 8 (.t 26))])))
def rfPlace_S : S :=
  (.seq (.sts [(.set 4 (.c (.int .i64 0))),
    (.set 5 (.c (.int .i64 0)))]) (.seq (.seq (.sts [(.chk [] (.c1 .lens (.t 0))),
    (.chk [] (.c2 (.bin .gtr) (.o1 .lens (.t 0)) (.c (.int .i64 65536)))),
    (.chk [((.o2 (.bin .gtr) (.o1 .lens (.t 0)) (.c (.int .i64 65536))), false)] (.c2 (.bin .lss) (.t 1) (.c (.int .i64 0)))),
    (.chk [] (.c3 .pick (.o2 (.bin .gtr) (.o1 .lens (.t 0)) (.c (.int .i64 65536))) (.c (.bool true)) (.o2 (.bin .lss) (.t 1) (.c (.int .i64 0))))),
    (.chk [((.o3 .pick (.o2 (.bin .gtr) (.o1 .lens (.t 0)) (.c (.int .i64 65536))) (.c (.bool true)) (.o2 (.bin .lss) (.t 1) (.c (.int .i64 0)))), false)] (.c1 .lens (.t 0))),
    (.chk [((.o3 .pick (.o2 (.bin .gtr) (.o1 .lens (.t 0)) (.c (.int .i64 65536))) (.c (.bool true)) (.o2 (.bin .lss) (.t 1) (.c (.int .i64 0)))), false)] (.c2 (.bin .gtr) (.t 1) (.o1 .lens (.t 0)))),
    (.chk [] (.c3 .pick (.o3 .pick (.o2 (.bin .gtr) (.o1 .lens (.t 0)) (.c (.int .i64 65536))) (.c (.bool true)) (.o2 (.bin .lss) (.t 1) (.c (.int .i64 0)))) (.c (.bool true)) (.o2 (.bin .gtr) (.t 1) (.o1 .lens (.t 0))))),
    (.set 21 (.o3 .pick (.o3 .pick (.o2 (.bin .gtr) (.o1 .lens (.t 0)) (.c (.int .i64 65536))) (.c (.bool true)) (.o2 (.bin .lss) (.t 1) (.c (.int .i64 0)))) (.c (.bool true)) (.o2 (.bin .gtr) (.t 1) (.o1 .lens (.t 0)))))]) (.cond 21 (.seq (.sts [(.set 4 (.c (.int .i64 0))),
    (.set 5 (.c (.int .i64 0)))]) .ret) .skip)) (.seq (.sts [(.set 6 (.c (.int .i64 1)))]) (.seq (.sts [(.set 7 (.c (.int .i64 1)))]) (.seq (.seq (.sts [(.set 8 (.c (.int .i64 0)))]) (.block 0 (.loop rfPlace_L1))) (.seq (.sts [(.set 4 (.t 6)),
    (.set 5 (.t 7))]) .ret))))))
def rfPlace_E : Res := [(none, (.t 4)), (none, (.t 5))]
theorem rfPlace_C : Tryd.f67.body.bind (comp Tryd.prog rfPlace_M Tryd.f67.ntmps) = some rfPlace_S := by kernel_rfl
theorem rfPlace_R : resE Tryd.prog rfPlace_M Tryd.f67.results.toList = some rfPlace_E := by kernel_rfl
theorem rfPlace_H (G : Ctr) (hG : GOk Tryd.prog G) (a0 : Value) (a1 : Value) {h : H} {K : Value → H → Prop} {KP : List PanicEntry → H → Prop} (Hw : wpS G rfPlace_S (retQ rfPlace_E (callK K KP)) (envOf 0 [a0, a1] env0) h) : HCX Tryd.prog 67 [a0, a1] h K KP :=
  .inl ⟨by kernel_rfl, hc_of mixed hG Tryd.func67 rfPlace_C rfPlace_R (of_decide_eq_true (by kernel_rfl)) Hw⟩
def LexPlace_M : Nat → Bool := fun i => Nat.testBit 499 i
def LexPlace_S : S :=
  (.seq (.sts [(.set 4 (.c (.bool false)))]) (.seq (.sts [(.eff [] (some 12) (.call 66) [(.t 0), (.t 1)] []),
    (.chk [] (.c1 (.ext 0) (.t 12))),
    (.chk [] (.c1 (.ext 1) (.t 12))),
    (.set 5 (.o1 (.ext 0) (.t 12))),
    (.set 6 (.o1 (.ext 1) (.t 12)))]) (.seq (.sts [(.eff [] (some 18) (.call 67) [(.t 0), (.t 1)] []),
    (.chk [] (.c1 (.ext 0) (.t 18))),
    (.chk [] (.c1 (.ext 1) (.t 18))),
    (.set 7 (.o1 (.ext 0) (.t 18))),
    (.set 8 (.o1 (.ext 1) (.t 18)))]) (.seq (.sts [(.chk [] (.c2 (.bin .eql) (.t 5) (.t 7))),
    (.chk [((.o2 (.bin .eql) (.t 5) (.t 7)), true)] (.c2 (.bin .eql) (.t 6) (.t 8))),
    (.chk [] (.c3 .pick (.o2 (.bin .eql) (.t 5) (.t 7)) (.o2 (.bin .eql) (.t 6) (.t 8)) (.c (.bool false)))),
    (.set 4 (.o3 .pick (.o2 (.bin .eql) (.t 5) (.t 7)) (.o2 (.bin .eql) (.t 6) (.t 8)) (.c (.bool false))))]) .ret))))
def LexPlace_E : Res := [(none, (.t 4))]
theorem LexPlace_C : Tryd.f44.body.bind (comp Tryd.prog LexPlace_M Tryd.f44.ntmps) = some LexPlace_S := by kernel_rfl
theorem LexPlace_R : resE Tryd.prog LexPlace_M Tryd.f44.results.toList = some LexPlace_E := by kernel_rfl
theorem LexPlace_H (G : Ctr) (hG : GOk Tryd.prog G) (a0 : Value) (a1 : Value) {h : H} {K : Value → H → Prop} {KP : List PanicEntry → H → Prop} (Hw : wpS G LexPlace_S (retQ LexPlace_E (callK K KP)) (envOf 0 [a0, a1] env0) h) : HCX Tryd.prog 44 [a0, a1] h K KP :=
  .inl ⟨by kernel_rfl, hc_of mixed hG Tryd.func44 LexPlace_C LexPlace_R (of_decide_eq_true (by kernel_rfl)) Hw⟩
end Go.Proofs.YtbkpmdgeeolifaaDoor
