/- The small statements of functions of the program, as the closed computation gives them (written by a program of ours; checked by the kernel below). -/
import Derived.Test.YtfgnpcckamlnaaaEvB
import Derived.Test.YtfgnpcckamlnaaaProg
import Derived.KernelRfl
import Derived.Test.YtfgnpcckamlnaaaGapS
namespace Go.Proofs.Ytfgnpcckamlnaaa
open Go Go.Ev
def stCount_M : Nat → Bool := fun i => Nat.testBit 16810611 i
def stCount_L1 : S :=
  (.block 1 (.seq (.sts [(.eff [] (some 22) (.call 22) [(.t 0), (.t 1)] []),
    (.set 6 (.t 22))]) (.seq (.seq (.sts [(.chk [] (.c2 (.bin .eql) (.t 6) (.c (.int .i64 (-1))))),
    (.set 24 (.o2 (.bin .eql) (.t 6) (.c (.int .i64 (-1)))))]) (.cond 24 (.seq (.sts [(.set 4 (.t 5))]) .ret) .skip)) (.seq (.sts [(.chk [] (.c2 (.bin .add) (.t 5) (.c (.int .i64 1)))),
    (.set 27 (.o2 (.bin .add) (.t 5) (.c (.int .i64 1)))),
    (.set 5 (.t 27))]) (.sts [(.chk [] (.c1 .lens (.t 1))),
    (.chk [] (.c2 (.bin .add) (.t 6) (.o1 .lens (.t 1)))),
    (.chk [] (.c2 .subLo (.t 0) (.o2 (.bin .add) (.t 6) (.o1 .lens (.t 1))))),
    (.set 33 (.o2 .subLo (.t 0) (.o2 (.bin .add) (.t 6) (.o1 .lens (.t 1))))),
    (.set 0 (.t 33))])))))
def stCount_S : S :=
  (.seq (.sts [(.set 4 (.c (.int .i64 0)))]) (.seq (.seq (.sts [(.chk [] (.c1 .lens (.t 1))),
    (.chk [] (.c2 (.bin .eql) (.o1 .lens (.t 1)) (.c (.int .i64 0)))),
    (.set 9 (.o2 (.bin .eql) (.o1 .lens (.t 1)) (.c (.int .i64 0))))]) (.cond 9 (.seq (.sts [(.eff [] (some 11) (.call 20) [(.t 0)] []),
    (.chk [] (.c2 (.bin .add) (.t 11) (.c (.int .i64 1)))),
    (.set 4 (.o2 (.bin .add) (.t 11) (.c (.int .i64 1))))]) .ret) .skip)) (.seq (.seq (.sts [(.chk [] (.c1 .lens (.t 1))),
    (.chk [] (.c2 (.bin .eql) (.o1 .lens (.t 1)) (.c (.int .i64 1)))),
    (.set 15 (.o2 (.bin .eql) (.o1 .lens (.t 1)) (.c (.int .i64 1))))]) (.cond 15 (.seq (.sts [(.chk [] (.c2 .idxS (.t 1) (.c (.int .i64 0)))),
    (.eff [] (some 19) (.call 21) [(.t 0), (.o2 .idxS (.t 1) (.c (.int .i64 0)))] []),
    (.set 4 (.t 19))]) .ret) .skip)) (.seq (.sts [(.set 5 (.c (.int .i64 0)))]) (.block 0 (.loop stCount_L1))))))
def stCount_E : Res := [(none, (.t 4))]
theorem stCount_C : Try.f13.body.bind (comp Try.prog stCount_M Try.f13.ntmps) = some stCount_S := by kernel_rfl
theorem stCount_R : resE Try.prog stCount_M Try.f13.results.toList = some stCount_E := by kernel_rfl
theorem stCount_H (G : Ctr) (hG : GOk Try.prog G) (a0 : Value) (a1 : Value) {h : H} {K : Value → H → Prop} {KP : List PanicEntry → H → Prop} (Hw : wpS G stCount_S (retQ stCount_E (callK K KP)) (envOf 0 [a0, a1] env0) h) : HCX Try.prog 13 [a0, a1] h K KP :=
  .inl ⟨by kernel_rfl, hc_of mixed hG Try.func13 stCount_C stCount_R (of_decide_eq_true (by kernel_rfl)) Hw⟩
def stLastIndexByte_M : Nat → Bool := fun i => Nat.testBit 19 i
def stLastIndexByte_S : S :=
  (.seq (.sts [(.set 4 (.c (.int .i64 0)))]) (.seq (.sts [(.eff [] (some 7) (.call 23) [(.t 0), (.t 1)] []),
    (.set 4 (.t 7))]) .ret))
def stLastIndexByte_E : Res := [(none, (.t 4))]
theorem stLastIndexByte_C : Try.f14.body.bind (comp Try.prog stLastIndexByte_M Try.f14.ntmps) = some stLastIndexByte_S := by kernel_rfl
theorem stLastIndexByte_R : resE Try.prog stLastIndexByte_M Try.f14.results.toList = some stLastIndexByte_E := by kernel_rfl
theorem stLastIndexByte_H (G : Ctr) (hG : GOk Try.prog G) (a0 : Value) (a1 : Value) {h : H} {K : Value → H → Prop} {KP : List PanicEntry → H → Prop} (Hw : wpS G stLastIndexByte_S (retQ stLastIndexByte_E (callK K KP)) (envOf 0 [a0, a1] env0) h) : HCX Try.prog 14 [a0, a1] h K KP :=
  .inl ⟨by kernel_rfl, hc_of mixed hG Try.func14 stLastIndexByte_C stLastIndexByte_R (of_decide_eq_true (by kernel_rfl)) Hw⟩
def baLastIndexByteString_M : Nat → Bool := fun i => Nat.testBit 132147 i
def baLastIndexByteString_L1 : S :=
  (.seq (.seq (.sts [(.chk [] (.c2 (.bin .geq) (.t 5) (.c (.int .i64 0)))),
    (.set 10 (.o2 (.bin .geq) (.t 5) (.c (.int .i64 0))))]) (.cond 10 .skip (.exit 0))) (.seq (.block 1 (.seq (.sts [(.chk [] (.c2 .idxS (.t 0) (.t 5))),
    (.chk [] (.c2 (.bin .eql) (.o2 .idxS (.t 0) (.t 5)) (.t 1))),
    (.set 17 (.o2 (.bin .eql) (.o2 .idxS (.t 0) (.t 5)) (.t 1)))]) (.cond 17 (.seq (.sts [(.set 4 (.t 5))]) .ret) .skip))) (.sts [(.chk [] (.c2 (.bin .sub) (.t 5) (.c (.int .i64 1)))),
    (.set 12 (.o2 (.bin .sub) (.t 5) (.c (.int .i64 1)))),
    (.set 5 (.t 12))])))
def baLastIndexByteString_S : S :=
  (.seq (.sts [(.set 4 (.c (.int .i64 0)))]) (.seq (.seq (.sts [(.chk [] (.c1 .lens (.t 0))),
    (.chk [] (.c2 (.bin .sub) (.o1 .lens (.t 0)) (.c (.int .i64 1)))),
    (.set 5 (.o2 (.bin .sub) (.o1 .lens (.t 0)) (.c (.int .i64 1))))]) (.block 0 (.loop baLastIndexByteString_L1))) (.seq (.sts [(.set 4 (.c (.int .i64 (-1))))]) .ret)))
def baLastIndexByteString_E : Res := [(none, (.t 4))]
theorem baLastIndexByteString_C : Try.f23.body.bind (comp Try.prog baLastIndexByteString_M Try.f23.ntmps) = some baLastIndexByteString_S := by kernel_rfl
theorem baLastIndexByteString_R : resE Try.prog baLastIndexByteString_M Try.f23.results.toList = some baLastIndexByteString_E := by kernel_rfl
theorem baLastIndexByteString_H (G : Ctr) (hG : GOk Try.prog G) (a0 : Value) (a1 : Value) {h : H} {K : Value → H → Prop} {KP : List PanicEntry → H → Prop} (Hw : wpS G baLastIndexByteString_S (retQ baLastIndexByteString_E (callK K KP)) (envOf 0 [a0, a1] env0) h) : HCX Try.prog 23 [a0, a1] h K KP :=
  .inl ⟨by kernel_rfl, hc_of mixed hG Try.func23 baLastIndexByteString_C baLastIndexByteString_R (of_decide_eq_true (by kernel_rfl)) Hw⟩
def lxPlace_M : Nat → Bool := fun i => Nat.testBit 524403 i
def lxPlace_S : S :=
  (.seq (.sts [(.set 4 (.c (.int .i64 0))),
    (.set 5 (.c (.int .i64 0)))]) (.seq (.seq (.sts [(.chk [] (.c1 .lens (.t 0))),
    (.chk [] (.c2 (.bin .gtr) (.o1 .lens (.t 0)) (.c (.int .i64 65536)))),
    (.chk [((.o2 (.bin .gtr) (.o1 .lens (.t 0)) (.c (.int .i64 65536))), false)] (.c2 (.bin .lss) (.t 1) (.c (.int .i64 0)))),
    (.chk [] (.c3 .pick (.o2 (.bin .gtr) (.o1 .lens (.t 0)) (.c (.int .i64 65536))) (.c (.bool true)) (.o2 (.bin .lss) (.t 1) (.c (.int .i64 0))))),
    (.chk [((.o3 .pick (.o2 (.bin .gtr) (.o1 .lens (.t 0)) (.c (.int .i64 65536))) (.c (.bool true)) (.o2 (.bin .lss) (.t 1) (.c (.int .i64 0)))), false)] (.c1 .lens (.t 0))),
    (.chk [((.o3 .pick (.o2 (.bin .gtr) (.o1 .lens (.t 0)) (.c (.int .i64 65536))) (.c (.bool true)) (.o2 (.bin .lss) (.t 1) (.c (.int .i64 0)))), false)] (.c2 (.bin .gtr) (.t 1) (.o1 .lens (.t 0)))),
    (.chk [] (.c3 .pick (.o3 .pick (.o2 (.bin .gtr) (.o1 .lens (.t 0)) (.c (.int .i64 65536))) (.c (.bool true)) (.o2 (.bin .lss) (.t 1) (.c (.int .i64 0)))) (.c (.bool true)) (.o2 (.bin .gtr) (.t 1) (.o1 .lens (.t 0))))),
    (.set 19 (.o3 .pick (.o3 .pick (.o2 (.bin .gtr) (.o1 .lens (.t 0)) (.c (.int .i64 65536))) (.c (.bool true)) (.o2 (.bin .lss) (.t 1) (.c (.int .i64 0)))) (.c (.bool true)) (.o2 (.bin .gtr) (.t 1) (.o1 .lens (.t 0)))))]) (.cond 19 (.seq (.sts [(.set 4 (.c (.int .i64 0))),
    (.set 5 (.c (.int .i64 0)))]) .ret) .skip)) (.seq (.sts [(.chk [] (.c2 .subHi (.t 0) (.t 1))),
    (.set 6 (.o2 .subHi (.t 0) (.t 1)))]) (.seq (.sts [(.eff [] (some 24) (.call 13) [(.t 6), (.c (str [10]))] []),
    (.chk [] (.c2 (.bin .add) (.c (.int .i64 1)) (.t 24))),
    (.eff [] (some 28) (.call 14) [(.t 6), (.c (.int .u8 10))] []),
    (.chk [] (.c2 (.bin .sub) (.t 1) (.t 28))),
    (.set 4 (.o2 (.bin .add) (.c (.int .i64 1)) (.t 24))),
    (.set 5 (.o2 (.bin .sub) (.t 1) (.t 28)))]) .ret))))
def lxPlace_E : Res := [(none, (.t 4)), (none, (.t 5))]
theorem lxPlace_C : Try.f8.body.bind (comp Try.prog lxPlace_M Try.f8.ntmps) = some lxPlace_S := by kernel_rfl
theorem lxPlace_R : resE Try.prog lxPlace_M Try.f8.results.toList = some lxPlace_E := by kernel_rfl
theorem lxPlace_H (G : Ctr) (hG : GOk Try.prog G) (a0 : Value) (a1 : Value) {h : H} {K : Value → H → Prop} {KP : List PanicEntry → H → Prop} (Hw : wpS G lxPlace_S (retQ lxPlace_E (callK K KP)) (envOf 0 [a0, a1] env0) h) : HCX Try.prog 8 [a0, a1] h K KP :=
  .inl ⟨by kernel_rfl, hc_of mixed hG Try.func8 lxPlace_C lxPlace_R (of_decide_eq_true (by kernel_rfl)) Hw⟩
def rfPlace_M : Nat → Bool := fun i => Nat.testBit 4313842163 i
def rfPlace_L1 : S :=
  (.seq (.seq (.sts [(.chk [] (.c2 (.bin .lss) (.t 8) (.t 1))),
    (.set 24 (.o2 (.bin .lss) (.t 8) (.t 1)))]) (.cond 24 .skip (.exit 0))) (.seq (.block 1 (.seq (.sts [(.chk [] (.c2 (.bin .add) (.t 7) (.c (.int .i64 1)))),
    (.set 28 (.o2 (.bin .add) (.t 7) (.c (.int .i64 1)))),
    (.set 7 (.t 28))]) (.seq (.sts [(.chk [] (.c2 .idxS (.t 0) (.t 8))),
    (.chk [] (.c2 (.bin .eql) (.o2 .idxS (.t 0) (.t 8)) (.c (.int .u8 10)))),
    (.set 32 (.o2 (.bin .eql) (.o2 .idxS (.t 0) (.t 8)) (.c (.int .u8 10))))]) (.cond 32 (.seq (.sts [(.chk [] (.c2 (.bin .add) (.t 6) (.c (.int .i64 1)))),
    (.set 34 (.o2 (.bin .add) (.t 6) (.c (.int .i64 1)))),
    (.set 6 (.t 34))]) (.sts [(.set 7 (.c (.int .i64 1)))])) .skip)))) (.sts [(.chk [] (.c2 (.bin .add) (.t 8) (.c (.int .i64 1)))),
    (.set 26 (.o2 (.bin .add) (.t 8) (.c (.int .i64 1)))),
    (.set 8 (.t 26))])))
def rfPlace_S : S :=
  (.seq (.sts [(.set 4 (.c (.int .i64 0))),
    (.set 5 (.c (.int .i64 0)))]) (.seq (.seq (.sts [(.chk [] (.c1 .lens (.t 0))),
    (.chk [] (.c2 (.bin .gtr) (.o1 .lens (.t 0)) (.c (.int .i64 65536)))),
    (.chk [((.o2 (.bin .gtr) (.o1 .lens (.t 0)) (.c (.int .i64 65536))), false)] (.c2 (.bin .lss) (.t 1) (.c (.int .i64 0)))),
    (.chk [] (.c3 .pick (.o2 (.bin .gtr) (.o1 .lens (.t 0)) (.c (.int .i64 65536))) (.c (.bool true)) (.o2 (.bin .lss) (.t 1) (.c (.int .i64 0))))),
    (.chk [((.o3 .pick (.o2 (.bin .gtr) (.o1 .lens (.t 0)) (.c (.int .i64 65536))) (.c (.bool true)) (.o2 (.bin .lss) (.t 1) (.c (.int .i64 0)))), false)] (.c1 .lens (.t 0))),
    (.chk [((.o3 .pick (.o2 (.bin .gtr) (.o1 .lens (.t 0)) (.c (.int .i64 65536))) (.c (.bool true)) (.o2 (.bin .lss) (.t 1) (.c (.int .i64 0)))), false)] (.c2 (.bin .gtr) (.t 1) (.o1 .lens (.t 0)))),
    (.chk [] (.c3 .pick (.o3 .pick (.o2 (.bin .gtr) (.o1 .lens (.t 0)) (.c (.int .i64 65536))) (.c (.bool true)) (.o2 (.bin .lss) (.t 1) (.c (.int .i64 0)))) (.c (.bool true)) (.o2 (.bin .gtr) (.t 1) (.o1 .lens (.t 0))))),
    (.set 21 (.o3 .pick (.o3 .pick (.o2 (.bin .gtr) (.o1 .lens (.t 0)) (.c (.int .i64 65536))) (.c (.bool true)) (.o2 (.bin .lss) (.t 1) (.c (.int .i64 0)))) (.c (.bool true)) (.o2 (.bin .gtr) (.t 1) (.o1 .lens (.t 0)))))]) (.cond 21 (.seq (.sts [(.set 4 (.c (.int .i64 0))),
    (.set 5 (.c (.int .i64 0)))]) .ret) .skip)) (.seq (.sts [(.set 6 (.c (.int .i64 1)))]) (.seq (.sts [(.set 7 (.c (.int .i64 1)))]) (.seq (.seq (.sts [(.set 8 (.c (.int .i64 0)))]) (.block 0 (.loop rfPlace_L1))) (.seq (.sts [(.set 4 (.t 6)),
    (.set 5 (.t 7))]) .ret))))))
def rfPlace_E : Res := [(none, (.t 4)), (none, (.t 5))]
theorem rfPlace_C : Try.f9.body.bind (comp Try.prog rfPlace_M Try.f9.ntmps) = some rfPlace_S := by kernel_rfl
theorem rfPlace_R : resE Try.prog rfPlace_M Try.f9.results.toList = some rfPlace_E := by kernel_rfl
theorem rfPlace_H (G : Ctr) (hG : GOk Try.prog G) (a0 : Value) (a1 : Value) {h : H} {K : Value → H → Prop} {KP : List PanicEntry → H → Prop} (Hw : wpS G rfPlace_S (retQ rfPlace_E (callK K KP)) (envOf 0 [a0, a1] env0) h) : HCX Try.prog 9 [a0, a1] h K KP :=
  .inl ⟨by kernel_rfl, hc_of mixed hG Try.func9 rfPlace_C rfPlace_R (of_decide_eq_true (by kernel_rfl)) Hw⟩
def LexPlace_M : Nat → Bool := fun i => Nat.testBit 499 i
def LexPlace_S : S :=
  (.seq (.sts [(.set 4 (.c (.bool false)))]) (.seq (.sts [(.eff [] (some 12) (.call 8) [(.t 0), (.t 1)] []),
    (.chk [] (.c1 (.ext 0) (.t 12))),
    (.chk [] (.c1 (.ext 1) (.t 12))),
    (.set 5 (.o1 (.ext 0) (.t 12))),
    (.set 6 (.o1 (.ext 1) (.t 12)))]) (.seq (.sts [(.eff [] (some 18) (.call 9) [(.t 0), (.t 1)] []),
    (.chk [] (.c1 (.ext 0) (.t 18))),
    (.chk [] (.c1 (.ext 1) (.t 18))),
    (.set 7 (.o1 (.ext 0) (.t 18))),
    (.set 8 (.o1 (.ext 1) (.t 18)))]) (.seq (.sts [(.chk [] (.c2 (.bin .eql) (.t 5) (.t 7))),
    (.chk [((.o2 (.bin .eql) (.t 5) (.t 7)), true)] (.c2 (.bin .eql) (.t 6) (.t 8))),
    (.chk [] (.c3 .pick (.o2 (.bin .eql) (.t 5) (.t 7)) (.o2 (.bin .eql) (.t 6) (.t 8)) (.c (.bool false)))),
    (.set 4 (.o3 .pick (.o2 (.bin .eql) (.t 5) (.t 7)) (.o2 (.bin .eql) (.t 6) (.t 8)) (.c (.bool false))))]) .ret))))
def LexPlace_E : Res := [(none, (.t 4))]
theorem LexPlace_C : Try.f4.body.bind (comp Try.prog LexPlace_M Try.f4.ntmps) = some LexPlace_S := by kernel_rfl
theorem LexPlace_R : resE Try.prog LexPlace_M Try.f4.results.toList = some LexPlace_E := by kernel_rfl
theorem LexPlace_H (G : Ctr) (hG : GOk Try.prog G) (a0 : Value) (a1 : Value) {h : H} {K : Value → H → Prop} {KP : List PanicEntry → H → Prop} (Hw : wpS G LexPlace_S (retQ LexPlace_E (callK K KP)) (envOf 0 [a0, a1] env0) h) : HCX Try.prog 4 [a0, a1] h K KP :=
  .inl ⟨by kernel_rfl, hc_of mixed hG Try.func4 LexPlace_C LexPlace_R (of_decide_eq_true (by kernel_rfl)) Hw⟩
def LexPlaces_M : Nat → Bool := fun i => Nat.testBit 19352260152677999671836669 i
def LexPlaces_L1 : S :=
  (.seq (.seq (.sts [(.chk [] (.c1 .lens (.t 0))),
    (.chk [] (.c2 (.bin .leq) (.t 9) (.o1 .lens (.t 0)))),
    (.set 45 (.o2 (.bin .leq) (.t 9) (.o1 .lens (.t 0))))]) (.cond 45 .skip (.exit 0))) (.seq (.block 1 (.seq (.sts [(.eff [] (some 51) (.call 8) [(.t 0), (.t 9)] []),
    (.chk [] (.c1 (.ext 0) (.t 51))),
    (.chk [] (.c1 (.ext 1) (.t 51))),
    (.set 10 (.o1 (.ext 0) (.t 51))),
    (.set 11 (.o1 (.ext 1) (.t 51)))]) (.seq (.seq (.sts [(.chk [] (.c2 (.bin .neq) (.t 10) (.t 7))),
    (.chk [((.o2 (.bin .neq) (.t 10) (.t 7)), false)] (.c2 (.bin .neq) (.t 11) (.t 8))),
    (.chk [] (.c3 .pick (.o2 (.bin .neq) (.t 10) (.t 7)) (.c (.bool true)) (.o2 (.bin .neq) (.t 11) (.t 8)))),
    (.set 61 (.o3 .pick (.o2 (.bin .neq) (.t 10) (.t 7)) (.c (.bool true)) (.o2 (.bin .neq) (.t 11) (.t 8))))]) (.cond 61 (.seq (.sts [(.set 2 (.c (.bool false)))]) .ret) .skip)) (.seq (.sts [(.chk [] (.c2 (.bin .add) (.t 8) (.c (.int .i64 1)))),
    (.set 63 (.o2 (.bin .add) (.t 8) (.c (.int .i64 1)))),
    (.set 8 (.t 63))]) (.seq (.seq (.sts [(.chk [] (.c1 .lens (.t 0))),
    (.chk [] (.c2 (.bin .lss) (.t 9) (.o1 .lens (.t 0)))),
    (.chk [((.o2 (.bin .lss) (.t 9) (.o1 .lens (.t 0))), true)] (.c2 .idxS (.t 0) (.t 9))),
    (.chk [((.o2 (.bin .lss) (.t 9) (.o1 .lens (.t 0))), true)] (.c2 (.bin .eql) (.o2 .idxS (.t 0) (.t 9)) (.c (.int .u8 10)))),
    (.chk [] (.c3 .pick (.o2 (.bin .lss) (.t 9) (.o1 .lens (.t 0))) (.o2 (.bin .eql) (.o2 .idxS (.t 0) (.t 9)) (.c (.int .u8 10))) (.c (.bool false)))),
    (.set 73 (.o3 .pick (.o2 (.bin .lss) (.t 9) (.o1 .lens (.t 0))) (.o2 (.bin .eql) (.o2 .idxS (.t 0) (.t 9)) (.c (.int .u8 10))) (.c (.bool false))))]) (.cond 73 (.seq (.sts [(.chk [] (.c2 (.bin .add) (.t 7) (.c (.int .i64 1)))),
    (.set 75 (.o2 (.bin .add) (.t 7) (.c (.int .i64 1)))),
    (.set 7 (.t 75))]) (.sts [(.set 8 (.c (.int .i64 1)))])) .skip)) (.seq (.sts [(.chk [] (.c2 (.bin .gtr) (.t 9) (.c (.int .i64 400)))),
    (.chk [((.o2 (.bin .gtr) (.t 9) (.c (.int .i64 400))), true)] (.c2 (.bin .add) (.t 9) (.c (.int .i64 400)))),
    (.chk [((.o2 (.bin .gtr) (.t 9) (.c (.int .i64 400))), true)] (.c1 .lens (.t 0))),
    (.chk [((.o2 (.bin .gtr) (.t 9) (.c (.int .i64 400))), true)] (.c2 (.bin .lss) (.o2 (.bin .add) (.t 9) (.c (.int .i64 400))) (.o1 .lens (.t 0)))),
    (.chk [] (.c3 .pick (.o2 (.bin .gtr) (.t 9) (.c (.int .i64 400))) (.o2 (.bin .lss) (.o2 (.bin .add) (.t 9) (.c (.int .i64 400))) (.o1 .lens (.t 0))) (.c (.bool false)))),
    (.set 84 (.o3 .pick (.o2 (.bin .gtr) (.t 9) (.c (.int .i64 400))) (.o2 (.bin .lss) (.o2 (.bin .add) (.t 9) (.c (.int .i64 400))) (.o1 .lens (.t 0))) (.c (.bool false))))]) (.cond 84 (.seq (.sts [(.eff [] (some 86) (.call 10) [(.t 0)] []),
    (.set 2 (.t 86))]) .ret) .skip))))))) (.sts [(.chk [] (.c2 (.bin .add) (.t 9) (.c (.int .i64 1)))),
    (.set 47 (.o2 (.bin .add) (.t 9) (.c (.int .i64 1)))),
    (.set 9 (.t 47))])))
def LexPlaces_S : S :=
  (.seq (.sts [(.set 2 (.c (.bool false)))]) (.seq (.seq (.sts [(.chk [] (.c1 .lens (.t 0))),
    (.chk [] (.c2 (.bin .gtr) (.o1 .lens (.t 0)) (.c (.int .i64 65536)))),
    (.set 18 (.o2 (.bin .gtr) (.o1 .lens (.t 0)) (.c (.int .i64 65536))))]) (.cond 18 (.seq (.sts [(.eff [] (some 21) (.call 8) [(.t 0), (.c (.int .i64 0))] []),
    (.chk [] (.c1 (.ext 0) (.t 21))),
    (.chk [] (.c1 (.ext 1) (.t 21))),
    (.set 3 (.o1 (.ext 0) (.t 21))),
    (.set 4 (.o1 (.ext 1) (.t 21)))]) (.seq (.sts [(.eff [] (some 25) (.call 8) [(.c (str [97])), (.c (.int .i64 1))] []),
    (.chk [] (.c1 (.ext 0) (.t 25))),
    (.chk [] (.c1 (.ext 1) (.t 25))),
    (.set 5 (.o1 (.ext 0) (.t 25))),
    (.set 6 (.o1 (.ext 1) (.t 25)))]) (.seq (.sts [(.chk [] (.c2 (.bin .eql) (.t 3) (.c (.int .i64 0)))),
    (.chk [((.o2 (.bin .eql) (.t 3) (.c (.int .i64 0))), true)] (.c2 (.bin .eql) (.t 4) (.c (.int .i64 0)))),
    (.chk [] (.c3 .pick (.o2 (.bin .eql) (.t 3) (.c (.int .i64 0))) (.o2 (.bin .eql) (.t 4) (.c (.int .i64 0))) (.c (.bool false)))),
    (.chk [((.o3 .pick (.o2 (.bin .eql) (.t 3) (.c (.int .i64 0))) (.o2 (.bin .eql) (.t 4) (.c (.int .i64 0))) (.c (.bool false))), true)] (.c2 (.bin .eql) (.t 5) (.c (.int .i64 1)))),
    (.chk [] (.c3 .pick (.o3 .pick (.o2 (.bin .eql) (.t 3) (.c (.int .i64 0))) (.o2 (.bin .eql) (.t 4) (.c (.int .i64 0))) (.c (.bool false))) (.o2 (.bin .eql) (.t 5) (.c (.int .i64 1))) (.c (.bool false)))),
    (.chk [((.o3 .pick (.o3 .pick (.o2 (.bin .eql) (.t 3) (.c (.int .i64 0))) (.o2 (.bin .eql) (.t 4) (.c (.int .i64 0))) (.c (.bool false))) (.o2 (.bin .eql) (.t 5) (.c (.int .i64 1))) (.c (.bool false))), true)] (.c2 (.bin .eql) (.t 6) (.c (.int .i64 2)))),
    (.chk [] (.c3 .pick (.o3 .pick (.o3 .pick (.o2 (.bin .eql) (.t 3) (.c (.int .i64 0))) (.o2 (.bin .eql) (.t 4) (.c (.int .i64 0))) (.c (.bool false))) (.o2 (.bin .eql) (.t 5) (.c (.int .i64 1))) (.c (.bool false))) (.o2 (.bin .eql) (.t 6) (.c (.int .i64 2))) (.c (.bool false)))),
    (.set 2 (.o3 .pick (.o3 .pick (.o3 .pick (.o2 (.bin .eql) (.t 3) (.c (.int .i64 0))) (.o2 (.bin .eql) (.t 4) (.c (.int .i64 0))) (.c (.bool false))) (.o2 (.bin .eql) (.t 5) (.c (.int .i64 1))) (.c (.bool false))) (.o2 (.bin .eql) (.t 6) (.c (.int .i64 2))) (.c (.bool false))))]) .ret))) .skip)) (.seq (.sts [(.set 7 (.c (.int .i64 1)))]) (.seq (.sts [(.set 8 (.c (.int .i64 1)))]) (.seq (.seq (.sts [(.set 9 (.c (.int .i64 0)))]) (.block 0 (.loop LexPlaces_L1))) (.seq (.sts [(.chk [] (.c1 .lens (.t 0))),
    (.chk [] (.c2 (.bin .add) (.o1 .lens (.t 0)) (.c (.int .i64 1)))),
    (.eff [] (some 92) (.call 8) [(.t 0), (.o2 (.bin .add) (.o1 .lens (.t 0)) (.c (.int .i64 1)))] []),
    (.chk [] (.c1 (.ext 0) (.t 92))),
    (.chk [] (.c1 (.ext 1) (.t 92))),
    (.set 12 (.o1 (.ext 0) (.t 92))),
    (.set 13 (.o1 (.ext 1) (.t 92)))]) (.seq (.sts [(.eff [] (some 97) (.call 8) [(.t 0), (.c (.int .i64 (-1)))] []),
    (.chk [] (.c1 (.ext 0) (.t 97))),
    (.chk [] (.c1 (.ext 1) (.t 97))),
    (.set 14 (.o1 (.ext 0) (.t 97))),
    (.set 15 (.o1 (.ext 1) (.t 97)))]) (.seq (.sts [(.chk [] (.c2 (.bin .eql) (.t 12) (.c (.int .i64 0)))),
    (.chk [((.o2 (.bin .eql) (.t 12) (.c (.int .i64 0))), true)] (.c2 (.bin .eql) (.t 13) (.c (.int .i64 0)))),
    (.chk [] (.c3 .pick (.o2 (.bin .eql) (.t 12) (.c (.int .i64 0))) (.o2 (.bin .eql) (.t 13) (.c (.int .i64 0))) (.c (.bool false)))),
    (.chk [((.o3 .pick (.o2 (.bin .eql) (.t 12) (.c (.int .i64 0))) (.o2 (.bin .eql) (.t 13) (.c (.int .i64 0))) (.c (.bool false))), true)] (.c2 (.bin .eql) (.t 14) (.c (.int .i64 0)))),
    (.chk [] (.c3 .pick (.o3 .pick (.o2 (.bin .eql) (.t 12) (.c (.int .i64 0))) (.o2 (.bin .eql) (.t 13) (.c (.int .i64 0))) (.c (.bool false))) (.o2 (.bin .eql) (.t 14) (.c (.int .i64 0))) (.c (.bool false)))),
    (.chk [((.o3 .pick (.o3 .pick (.o2 (.bin .eql) (.t 12) (.c (.int .i64 0))) (.o2 (.bin .eql) (.t 13) (.c (.int .i64 0))) (.c (.bool false))) (.o2 (.bin .eql) (.t 14) (.c (.int .i64 0))) (.c (.bool false))), true)] (.c2 (.bin .eql) (.t 15) (.c (.int .i64 0)))),
    (.chk [] (.c3 .pick (.o3 .pick (.o3 .pick (.o2 (.bin .eql) (.t 12) (.c (.int .i64 0))) (.o2 (.bin .eql) (.t 13) (.c (.int .i64 0))) (.c (.bool false))) (.o2 (.bin .eql) (.t 14) (.c (.int .i64 0))) (.c (.bool false))) (.o2 (.bin .eql) (.t 15) (.c (.int .i64 0))) (.c (.bool false)))),
    (.set 2 (.o3 .pick (.o3 .pick (.o3 .pick (.o2 (.bin .eql) (.t 12) (.c (.int .i64 0))) (.o2 (.bin .eql) (.t 13) (.c (.int .i64 0))) (.c (.bool false))) (.o2 (.bin .eql) (.t 14) (.c (.int .i64 0))) (.c (.bool false))) (.o2 (.bin .eql) (.t 15) (.c (.int .i64 0))) (.c (.bool false))))]) .ret))))))))
def LexPlaces_E : Res := [(none, (.t 2))]
theorem LexPlaces_C : Try.f5.body.bind (comp Try.prog LexPlaces_M Try.f5.ntmps) = some LexPlaces_S := by kernel_rfl
theorem LexPlaces_R : resE Try.prog LexPlaces_M Try.f5.results.toList = some LexPlaces_E := by kernel_rfl
theorem LexPlaces_H (G : Ctr) (hG : GOk Try.prog G) (a0 : Value) {h : H} {K : Value → H → Prop} {KP : List PanicEntry → H → Prop} (Hw : wpS G LexPlaces_S (retQ LexPlaces_E (callK K KP)) (envOf 0 [a0] env0) h) : HCX Try.prog 5 [a0] h K KP :=
  .inl ⟨by kernel_rfl, hc_of mixed hG Try.func5 LexPlaces_C LexPlaces_R (of_decide_eq_true (by kernel_rfl)) Hw⟩
def placesEnd_M : Nat → Bool := fun i => Nat.testBit 36029347856909309 i
def placesEnd_L1 : S :=
  (.seq (.seq (.sts [(.chk [] (.c1 .lens (.t 0))),
    (.chk [] (.c2 (.bin .leq) (.t 5) (.o1 .lens (.t 0)))),
    (.set 30 (.o2 (.bin .leq) (.t 5) (.o1 .lens (.t 0))))]) (.cond 30 .skip (.exit 0))) (.seq (.block 1 (.seq (.sts [(.chk [] (.c2 (.bin .add) (.t 4) (.c (.int .i64 1)))),
    (.set 34 (.o2 (.bin .add) (.t 4) (.c (.int .i64 1)))),
    (.set 4 (.t 34))]) (.seq (.seq (.sts [(.chk [] (.c2 (.bin .sub) (.t 5) (.c (.int .i64 1)))),
    (.chk [] (.c2 .idxS (.t 0) (.o2 (.bin .sub) (.t 5) (.c (.int .i64 1))))),
    (.chk [] (.c2 (.bin .eql) (.o2 .idxS (.t 0) (.o2 (.bin .sub) (.t 5) (.c (.int .i64 1)))) (.c (.int .u8 10)))),
    (.set 39 (.o2 (.bin .eql) (.o2 .idxS (.t 0) (.o2 (.bin .sub) (.t 5) (.c (.int .i64 1)))) (.c (.int .u8 10))))]) (.cond 39 (.seq (.sts [(.chk [] (.c2 (.bin .add) (.t 3) (.c (.int .i64 1)))),
    (.set 41 (.o2 (.bin .add) (.t 3) (.c (.int .i64 1)))),
    (.set 3 (.t 41))]) (.sts [(.set 4 (.c (.int .i64 1)))])) .skip)) (.seq (.sts [(.eff [] (some 45) (.call 8) [(.t 0), (.t 5)] []),
    (.chk [] (.c1 (.ext 0) (.t 45))),
    (.chk [] (.c1 (.ext 1) (.t 45))),
    (.set 6 (.o1 (.ext 0) (.t 45))),
    (.set 7 (.o1 (.ext 1) (.t 45)))]) (.seq (.sts [(.chk [] (.c2 (.bin .neq) (.t 6) (.t 3))),
    (.chk [((.o2 (.bin .neq) (.t 6) (.t 3)), false)] (.c2 (.bin .neq) (.t 7) (.t 4))),
    (.chk [] (.c3 .pick (.o2 (.bin .neq) (.t 6) (.t 3)) (.c (.bool true)) (.o2 (.bin .neq) (.t 7) (.t 4)))),
    (.set 55 (.o3 .pick (.o2 (.bin .neq) (.t 6) (.t 3)) (.c (.bool true)) (.o2 (.bin .neq) (.t 7) (.t 4))))]) (.cond 55 (.seq (.sts [(.set 2 (.c (.bool false)))]) .ret) .skip)))))) (.sts [(.chk [] (.c2 (.bin .add) (.t 5) (.c (.int .i64 1)))),
    (.set 32 (.o2 (.bin .add) (.t 5) (.c (.int .i64 1)))),
    (.set 5 (.t 32))])))
def placesEnd_S : S :=
  (.seq (.sts [(.set 2 (.c (.bool false)))]) (.seq (.sts [(.chk [] (.c1 .lens (.t 0))),
    (.chk [] (.c2 (.bin .sub) (.o1 .lens (.t 0)) (.c (.int .i64 400)))),
    (.eff [] (some 15) (.call 8) [(.t 0), (.o2 (.bin .sub) (.o1 .lens (.t 0)) (.c (.int .i64 400)))] []),
    (.chk [] (.c1 (.ext 0) (.t 15))),
    (.chk [] (.c1 (.ext 1) (.t 15))),
    (.set 3 (.o1 (.ext 0) (.t 15))),
    (.set 4 (.o1 (.ext 1) (.t 15)))]) (.seq (.seq (.sts [(.chk [] (.c2 (.bin .lss) (.t 3) (.c (.int .i64 1)))),
    (.chk [((.o2 (.bin .lss) (.t 3) (.c (.int .i64 1))), false)] (.c2 (.bin .lss) (.t 4) (.c (.int .i64 1)))),
    (.chk [] (.c3 .pick (.o2 (.bin .lss) (.t 3) (.c (.int .i64 1))) (.c (.bool true)) (.o2 (.bin .lss) (.t 4) (.c (.int .i64 1))))),
    (.set 23 (.o3 .pick (.o2 (.bin .lss) (.t 3) (.c (.int .i64 1))) (.c (.bool true)) (.o2 (.bin .lss) (.t 4) (.c (.int .i64 1)))))]) (.cond 23 (.seq (.sts [(.set 2 (.c (.bool false)))]) .ret) .skip)) (.seq (.seq (.sts [(.chk [] (.c1 .lens (.t 0))),
    (.chk [] (.c2 (.bin .sub) (.o1 .lens (.t 0)) (.c (.int .i64 399)))),
    (.set 5 (.o2 (.bin .sub) (.o1 .lens (.t 0)) (.c (.int .i64 399))))]) (.block 0 (.loop placesEnd_L1))) (.seq (.sts [(.chk [] (.c1 .lens (.t 0))),
    (.chk [] (.c2 (.bin .add) (.o1 .lens (.t 0)) (.c (.int .i64 1)))),
    (.eff [] (some 61) (.call 8) [(.t 0), (.o2 (.bin .add) (.o1 .lens (.t 0)) (.c (.int .i64 1)))] []),
    (.chk [] (.c1 (.ext 0) (.t 61))),
    (.chk [] (.c1 (.ext 1) (.t 61))),
    (.set 8 (.o1 (.ext 0) (.t 61))),
    (.set 9 (.o1 (.ext 1) (.t 61)))]) (.seq (.sts [(.chk [] (.c2 (.bin .eql) (.t 8) (.c (.int .i64 0)))),
    (.chk [((.o2 (.bin .eql) (.t 8) (.c (.int .i64 0))), true)] (.c2 (.bin .eql) (.t 9) (.c (.int .i64 0)))),
    (.chk [] (.c3 .pick (.o2 (.bin .eql) (.t 8) (.c (.int .i64 0))) (.o2 (.bin .eql) (.t 9) (.c (.int .i64 0))) (.c (.bool false)))),
    (.set 2 (.o3 .pick (.o2 (.bin .eql) (.t 8) (.c (.int .i64 0))) (.o2 (.bin .eql) (.t 9) (.c (.int .i64 0))) (.c (.bool false))))]) .ret))))))
def placesEnd_E : Res := [(none, (.t 2))]
theorem placesEnd_C : Try.f10.body.bind (comp Try.prog placesEnd_M Try.f10.ntmps) = some placesEnd_S := by kernel_rfl
theorem placesEnd_R : resE Try.prog placesEnd_M Try.f10.results.toList = some placesEnd_E := by kernel_rfl
theorem placesEnd_H (G : Ctr) (hG : GOk Try.prog G) (a0 : Value) {h : H} {K : Value → H → Prop} {KP : List PanicEntry → H → Prop} (Hw : wpS G placesEnd_S (retQ placesEnd_E (callK K KP)) (envOf 0 [a0] env0) h) : HCX Try.prog 10 [a0] h K KP :=
  .inl ⟨by kernel_rfl, hc_of mixed hG Try.func10 placesEnd_C placesEnd_R (of_decide_eq_true (by kernel_rfl)) Hw⟩
end Go.Proofs.Ytfgnpcckamlnaaa
