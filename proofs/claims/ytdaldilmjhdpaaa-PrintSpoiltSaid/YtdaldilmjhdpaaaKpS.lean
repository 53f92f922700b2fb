/- The small statements of functions of the program, as the closed computation gives them (written by a program of ours; checked by the kernel below). -/
import Derived.Test.YtdaldilmjhdpaaaEvB
import Derived.Test.YtdaldilmjhdpaaaProg
import Derived.KernelRfl
import Derived.Test.YtdaldilmjhdpaaaWellS
namespace Go.Proofs.Ytdaldilmjhdpaaa
open Go Go.Ev
def prText_M : Nat → Bool := fun i => Nat.testBit 179 i
def prText_S : S :=
  (.seq (.sts [(.set 4 (.c (str [])))]) (.seq (.seq (.sts [(.chk [] (.c2 (.bin .neq) (.t 0) (.c (.int .i64 0)))),
    (.set 7 (.o2 (.bin .neq) (.t 0) (.c (.int .i64 0))))]) (.cond 7 (.seq (.sts [(.set 4 (.c (str [])))]) .ret) .skip)) (.seq (.sts [(.eff [] (some 5) (.alloc 55 #[(.pointer none), (.slice none 0 0)]) [] [])]) (.seq (.sts [(.eff [] (some 9) (.inv [(47, 17), (71, 27), (84, 65), (87, 84), (110, 66)]) [(.t 1), (.t 5)] [])]) (.seq (.sts [(.eff [] (some 10) (.call 19) [(.t 5)] []),
    (.set 4 (.t 10))]) .ret)))))
def prText_E : Res := [(none, (.t 4))]
theorem prText_C : Try.f13.body.bind (comp Try.prog prText_M Try.f13.ntmps) = some prText_S := by kernel_rfl
theorem prText_R : resE Try.prog prText_M Try.f13.results.toList = some prText_E := by kernel_rfl
theorem prText_H (G : Ctr) (hG : GOk Try.prog G) (a0 : Value) (a1 : Value) {h : H} {K : Value → H → Prop} {KP : List PanicEntry → H → Prop} (Hw : wpS G prText_S (retQ prText_E (callK K KP)) (envOf 0 [a0, a1] env0) h) : HCX Try.prog 13 [a0, a1] h K KP :=
  .inl ⟨by kernel_rfl, hc_of mixed hG Try.func13 prText_C prText_R (of_decide_eq_true (by kernel_rfl)) Hw⟩
def prAtomW_M : Nat → Bool := fun i => Nat.testBit 7 i
def prAtomW_S : S :=
  (.seq (.sts [(.eff [] (some 2) (.box 71) [(.t 0)] [])]) (.sts [(.chk [] (.c1 (.fld 0) (.t 2))),
    (.chk [] (.c1 .ld1 (.o1 (.fld 0) (.t 2)))),
    (.chk [] (.c1 (.fld 1) (.t 2))),
    (.chk [] (.c1 .ld1 (.o1 (.fld 1) (.t 2)))),
    (.set 8 (.o1 .ld1 (.o1 (.fld 1) (.t 2)))),
    (.set 6 (.o1 .ld1 (.o1 (.fld 0) (.t 2)))),
    (.eff [] (some 9) (.call 37) [(.t 8), (.c (.func (.func 38) #[] #[]))] [([], ((.o1 (.fld 0) (.t 2)), none))]),
    (.eff [] (some 10) (.call 36) [(.t 1), (.t 6), (.t 9)] [])]))
def prAtomW_E : Res := []
theorem prAtomW_C : Try.f27.body.bind (comp Try.prog prAtomW_M Try.f27.ntmps) = some prAtomW_S := by kernel_rfl
theorem prAtomW_R : resE Try.prog prAtomW_M Try.f27.results.toList = some prAtomW_E := by kernel_rfl
theorem prAtomW_H (G : Ctr) (hG : GOk Try.prog G) (a0 : Value) (a1 : Value) {h : H} {K : Value → H → Prop} {KP : List PanicEntry → H → Prop} (Hw : wpS G prAtomW_S (retQ prAtomW_E (callK K KP)) (envOf 0 [a0, a1] env0) h) : HCX Try.prog 27 [a0, a1] h K KP :=
  .inl ⟨by kernel_rfl, hc_of mixed hG Try.func27 prAtomW_C prAtomW_R (of_decide_eq_true (by kernel_rfl)) Hw⟩
def prAtomF_M : Nat → Bool := fun i => Nat.testBit 7 i
def prAtomF_S : S :=
  (.seq (.sts [(.eff [] (some 1) (.box 43) [(.t 0)] []),
    (.set 2 (.c .nilIface))]) (.seq (.sts [(.chk [] (.c1 (.ldn 4) (.t 1))),
    (.chk [] (.c1 (.mki 84) (.o1 (.ldn 4) (.t 1)))),
    (.set 2 (.o1 (.mki 84) (.o1 (.ldn 4) (.t 1))))]) .ret))
def prAtomF_E : Res := [(none, (.t 2))]
theorem prAtomF_C : Try.f38.body.bind (comp Try.prog prAtomF_M Try.f38.ntmps) = some prAtomF_S := by kernel_rfl
theorem prAtomF_R : resE Try.prog prAtomF_M Try.f38.results.toList = some prAtomF_E := by kernel_rfl
theorem prAtomF_H (G : Ctr) (hG : GOk Try.prog G) (a0 : Value) {h : H} {K : Value → H → Prop} {KP : List PanicEntry → H → Prop} (Hw : wpS G prAtomF_S (retQ prAtomF_E (callK K KP)) (envOf 0 [a0] env0) h) : HCX Try.prog 38 [a0] h K KP :=
  .inl ⟨by kernel_rfl, hc_of mixed hG Try.func38 prAtomF_C prAtomF_R (of_decide_eq_true (by kernel_rfl)) Hw⟩
def prApplied_M : Nat → Bool := fun i => Nat.testBit 2055 i
def prApplied_S : S :=
  (.seq (.sts [(.eff [] (some 8) (.call 28) [(.t 0), (.t 1)] [])]) (.seq (.sts [(.chk [] (.c1 .len (.t 2))),
    (.chk [] (.c2 (.bin .gtr) (.o1 .len (.t 2)) (.c (.int .i64 0)))),
    (.set 11 (.o2 (.bin .gtr) (.o1 .len (.t 2)) (.c (.int .i64 0))))]) (.cond 11 (.seq (.sts [(.eff [] (some 13) (.call 18) [(.t 0), (.c (.int .u8 40))] [])]) (.seq (.sts [(.eff [] (some 16) (.call 29) [(.t 0), (.c (str [44, 32])), (.t 2)] [])]) (.sts [(.eff [] (some 18) (.call 18) [(.t 0), (.c (.int .u8 41))] [])]))) .skip)))
def prApplied_E : Res := []
theorem prApplied_C : Try.f36.body.bind (comp Try.prog prApplied_M Try.f36.ntmps) = some prApplied_S := by kernel_rfl
theorem prApplied_R : resE Try.prog prApplied_M Try.f36.results.toList = some prApplied_E := by kernel_rfl
theorem prApplied_H (G : Ctr) (hG : GOk Try.prog G) (a0 : Value) (a1 : Value) (a2 : Value) {h : H} {K : Value → H → Prop} {KP : List PanicEntry → H → Prop} (Hw : wpS G prApplied_S (retQ prApplied_E (callK K KP)) (envOf 0 [a0, a1, a2] env0) h) : HCX Try.prog 36 [a0, a1, a2] h K KP :=
  .inl ⟨by kernel_rfl, hc_of mixed hG Try.func36 prApplied_C prApplied_R (of_decide_eq_true (by kernel_rfl)) Hw⟩
def prBetween_M : Nat → Bool := fun i => Nat.testBit 69575 i
def prBetween_L1 : S :=
  (.seq (.sts [(.chk [] (.c2 (.bin .lss) (.t 10) (.t 9))),
    (.set 11 (.o2 (.bin .lss) (.t 10) (.t 9)))]) (.seq (.cond 11 .skip (.exit 0)) (.seq (.block 1 (.seq (.sts [(.chk [] (.c2 (.idxA 1) (.t 8) (.t 10))),
    (.chk [] (.c1 .ld1 (.o2 (.idxA 1) (.t 8) (.t 10)))),
    (.set 6 (.t 10)),
    (.set 7 (.o1 .ld1 (.o2 (.idxA 1) (.t 8) (.t 10))))]) (.seq (.seq (.sts [(.chk [] (.c2 (.bin .gtr) (.t 6) (.c (.int .i64 0)))),
    (.set 16 (.o2 (.bin .gtr) (.t 6) (.c (.int .i64 0))))]) (.cond 16 (.sts [(.eff [] (some 19) (.call 28) [(.t 0), (.t 1)] [])]) .skip)) (.sts [(.eff [] (some 22) (.inv [(47, 17), (71, 27), (84, 65), (87, 84), (110, 66)]) [(.t 7), (.t 0)] [])])))) (.sts [(.chk [] (.c2 (.bin .add) (.t 10) (.c (.int .i64 1)))),
    (.set 23 (.o2 (.bin .add) (.t 10) (.c (.int .i64 1)))),
    (.set 10 (.t 23))]))))
def prBetween_S : S :=
  (.seq (.sts [(.set 8 (.t 2)),
    (.chk [] (.c1 .len (.t 8))),
    (.set 9 (.o1 .len (.t 8))),
    (.set 10 (.c (.int .i64 0)))]) (.block 0 (.loop prBetween_L1)))
def prBetween_E : Res := []
theorem prBetween_C : Try.f29.body.bind (comp Try.prog prBetween_M Try.f29.ntmps) = some prBetween_S := by kernel_rfl
theorem prBetween_R : resE Try.prog prBetween_M Try.f29.results.toList = some prBetween_E := by kernel_rfl
theorem prBetween_H (G : Ctr) (hG : GOk Try.prog G) (a0 : Value) (a1 : Value) (a2 : Value) {h : H} {K : Value → H → Prop} {KP : List PanicEntry → H → Prop} (Hw : wpS G prBetween_S (retQ prBetween_E (callK K KP)) (envOf 0 [a0, a1, a2] env0) h) : HCX Try.prog 29 [a0, a1, a2] h K KP :=
  .inl ⟨by kernel_rfl, hc_of mixed hG Try.func29 prBetween_C prBetween_R (of_decide_eq_true (by kernel_rfl)) Hw⟩
def prParts_M : Nat → Bool := fun i => Nat.testBit 30899 i
def prParts_L1 : S :=
  (.seq (.sts [(.chk [] (.c2 (.bin .lss) (.t 13) (.t 12))),
    (.set 14 (.o2 (.bin .lss) (.t 13) (.t 12)))]) (.seq (.cond 14 .skip (.exit 0)) (.seq (.block 1 (.seq (.sts [(.chk [] (.c2 (.idxA 4) (.t 11) (.t 13))),
    (.chk [] (.c1 (.ldn 4) (.o2 (.idxA 4) (.t 11) (.t 13)))),
    (.set 16 (.o1 (.ldn 4) (.o2 (.idxA 4) (.t 11) (.t 13)))),
    (.eff [] (some 7) (.alloc 43 #[(.int .i64 0), (.int .i64 0), (str []), (.int .i64 0)]) [] []),
    (.eff [] none (.store 4) [(.t 7), (.t 16)] [])]) (.sts [(.chk [] (.c1 (.ldn 4) (.t 7))),
    (.set 19 (.o1 (.ldn 4) (.t 7))),
    (.eff [] (some 20) .callv [(.t 1), (.t 19)] []),
    (.eff [] (some 21) (.bsl 66 1 1 [.nilIface] [0]) [(.t 20)] []),
    (.eff [] (some 22) (.app 66 1 16 [.nilIface]) [(.t 5), (.t 21)] []),
    (.set 5 (.t 22))]))) (.sts [(.chk [] (.c2 (.bin .add) (.t 13) (.c (.int .i64 1)))),
    (.set 23 (.o2 (.bin .add) (.t 13) (.c (.int .i64 1)))),
    (.set 13 (.t 23))]))))
def prParts_S : S :=
  (.seq (.sts [(.set 4 (.c (.slice none 0 0)))]) (.seq (.sts [(.chk [] (.c1 .len (.t 0))),
    (.eff [] (some 10) (.mks 66 1 16 [.nilIface]) [(.c (.int .i64 0)), (.o1 .len (.t 0))] []),
    (.set 5 (.t 10))]) (.seq (.seq (.sts [(.set 11 (.t 0)),
    (.chk [] (.c1 .len (.t 11))),
    (.set 12 (.o1 .len (.t 11))),
    (.set 13 (.c (.int .i64 0)))]) (.block 0 (.loop prParts_L1))) (.seq (.sts [(.set 4 (.t 5))]) .ret))))
def prParts_E : Res := [(none, (.t 4))]
theorem prParts_C : Try.f37.body.bind (comp Try.prog prParts_M Try.f37.ntmps) = some prParts_S := by kernel_rfl
theorem prParts_R : resE Try.prog prParts_M Try.f37.results.toList = some prParts_E := by kernel_rfl
theorem prParts_H (G : Ctr) (hG : GOk Try.prog G) (a0 : Value) (a1 : Value) {h : H} {K : Value → H → Prop} {KP : List PanicEntry → H → Prop} (Hw : wpS G prParts_S (retQ prParts_E (callK K KP)) (envOf 0 [a0, a1] env0) h) : HCX Try.prog 37 [a0, a1] h K KP :=
  .inl ⟨by kernel_rfl, hc_of mixed hG Try.func37 prParts_C prParts_R (of_decide_eq_true (by kernel_rfl)) Hw⟩
def prTermW_M : Nat → Bool := fun i => Nat.testBit 71 i
def prTermW_S : S :=
  (.seq (.sts [(.eff [] (some 2) (.box 84) [(.t 0)] [])]) (.seq (.seq (.sts [(.chk [] (.c1 (.fld 0) (.t 2))),
    (.chk [] (.c1 .ld1 (.o1 (.fld 0) (.t 2)))),
    (.chk [] (.c2 (.bin .eql) (.o1 .ld1 (.o1 (.fld 0) (.t 2))) (.c (.int .i64 4)))),
    (.set 6 (.o2 (.bin .eql) (.o1 .ld1 (.o1 (.fld 0) (.t 2))) (.c (.int .i64 4))))]) (.cond 6 (.seq (.sts [(.chk [] (.c1 (.fld 2) (.t 2))),
    (.chk [] (.c1 .ld1 (.o1 (.fld 2) (.t 2)))),
    (.set 9 (.o1 .ld1 (.o1 (.fld 2) (.t 2)))),
    (.eff [] (some 10) (.call 28) [(.t 1), (.t 9)] [])]) .ret) .skip)) (.sts [(.chk [] (.c1 (.ldn 4) (.t 2))),
    (.set 11 (.o1 (.ldn 4) (.t 2))),
    (.eff [] (some 12) (.call 46) [(.t 11)] []),
    (.eff [] (some 14) (.call 66) [(.t 12), (.t 1)] [])])))
def prTermW_E : Res := []
theorem prTermW_C : Try.f65.body.bind (comp Try.prog prTermW_M Try.f65.ntmps) = some prTermW_S := by kernel_rfl
theorem prTermW_R : resE Try.prog prTermW_M Try.f65.results.toList = some prTermW_E := by kernel_rfl
theorem prTermW_H (G : Ctr) (hG : GOk Try.prog G) (a0 : Value) (a1 : Value) {h : H} {K : Value → H → Prop} {KP : List PanicEntry → H → Prop} (Hw : wpS G prTermW_S (retQ prTermW_E (callK K KP)) (envOf 0 [a0, a1] env0) h) : HCX Try.prog 65 [a0, a1] h K KP :=
  .inl ⟨by kernel_rfl, hc_of mixed hG Try.func65 prTermW_C prTermW_R (of_decide_eq_true (by kernel_rfl)) Hw⟩
def prValueW_M : Nat → Bool := fun i => Nat.testBit 7 i
def prValueW_S : S :=
  (.seq (.sts [(.eff [] (some 2) (.box 110) [(.t 0)] [])]) (.sts [(.chk [] (.c1 (.ldn 3) (.t 2))),
    (.set 5 (.o1 (.ldn 3) (.t 2))),
    (.eff [] (some 6) (.call 67) [(.t 5)] []),
    (.eff [] (some 7) (.call 28) [(.t 1), (.t 6)] [])]))
def prValueW_E : Res := []
theorem prValueW_C : Try.f66.body.bind (comp Try.prog prValueW_M Try.f66.ntmps) = some prValueW_S := by kernel_rfl
theorem prValueW_R : resE Try.prog prValueW_M Try.f66.results.toList = some prValueW_E := by kernel_rfl
theorem prValueW_H (G : Ctr) (hG : GOk Try.prog G) (a0 : Value) (a1 : Value) {h : H} {K : Value → H → Prop} {KP : List PanicEntry → H → Prop} (Hw : wpS G prValueW_S (retQ prValueW_E (callK K KP)) (envOf 0 [a0, a1] env0) h) : HCX Try.prog 66 [a0, a1] h K KP :=
  .inl ⟨by kernel_rfl, hc_of mixed hG Try.func66 prValueW_C prValueW_R (of_decide_eq_true (by kernel_rfl)) Hw⟩
def syText_M : Nat → Bool := fun i => Nat.testBit 8615 i
def syText_S : S :=
  (.seq (.sts [(.eff [] (some 1) (.box 63) [(.t 0)] []),
    (.set 2 (.c (str [])))]) (.seq (.seq (.sts [(.chk [] (.c1 (.ldn 3) (.t 1))),
    (.set 3 (.o1 (.ldn 3) (.t 1))),
    (.eff [] (some 4) (.call 48) [(.t 3)] []),
    (.chk [] (.c1 .not (.t 4))),
    (.set 5 (.o1 .not (.t 4)))]) (.cond 5 (.seq (.sts [(.set 2 (.c (str [])))]) .ret) .skip)) (.seq (.seq (.sts [(.chk [] (.c1 (.fld 0) (.t 1))),
    (.chk [] (.c1 .ld1 (.o1 (.fld 0) (.t 1)))),
    (.set 7 (.o1 .ld1 (.o1 (.fld 0) (.t 1))))]) (.block 0 (.seq (.sts [(.chk [] (.c2 (.bin .eql) (.t 7) (.c (.int .i64 1)))),
    (.set 8 (.o2 (.bin .eql) (.t 7) (.c (.int .i64 1))))]) (.cond 8 (.seq (.sts [(.chk [] (.c1 (.fld 1) (.t 1))),
    (.chk [] (.c1 .ld1 (.o1 (.fld 1) (.t 1)))),
    (.set 11 (.o1 .ld1 (.o1 (.fld 1) (.t 1)))),
    (.eff [] (some 12) (.call 68) [(.t 11), (.c (.int .i64 10))] []),
    (.set 2 (.t 12))]) .ret) (.seq (.sts [(.chk [] (.c2 (.bin .eql) (.t 7) (.c (.int .i64 2)))),
    (.set 13 (.o2 (.bin .eql) (.t 7) (.c (.int .i64 2))))]) (.cond 13 (.seq (.sts [(.chk [] (.c1 (.fld 2) (.t 1))),
    (.chk [] (.c1 .ld1 (.o1 (.fld 2) (.t 1)))),
    (.set 2 (.o1 .ld1 (.o1 (.fld 2) (.t 1))))]) .ret) .skip)))))) (.seq (.sts [(.chk [] (.c1 (.fld 2) (.t 1))),
    (.chk [] (.c1 .ld1 (.o1 (.fld 2) (.t 1)))),
    (.set 18 (.o1 .ld1 (.o1 (.fld 2) (.t 1)))),
    (.eff [] (some 19) (.call 69) [(.t 18)] []),
    (.set 2 (.t 19))]) .ret))))
def syText_E : Res := [(none, (.t 2))]
theorem syText_C : Try.f67.body.bind (comp Try.prog syText_M Try.f67.ntmps) = some syText_S := by kernel_rfl
theorem syText_R : resE Try.prog syText_M Try.f67.results.toList = some syText_E := by kernel_rfl
theorem syText_H (G : Ctr) (hG : GOk Try.prog G) (a0 : Value) {h : H} {K : Value → H → Prop} {KP : List PanicEntry → H → Prop} (Hw : wpS G syText_S (retQ syText_E (callK K KP)) (envOf 0 [a0] env0) h) : HCX Try.prog 67 [a0] h K KP :=
  .inl ⟨by kernel_rfl, hc_of mixed hG Try.func67 syText_C syText_R (of_decide_eq_true (by kernel_rfl)) Hw⟩
def syQuoted_M : Nat → Bool := fun i => Nat.testBit 4362083949 i
def syQuoted_L1 : S :=
  (.seq (.sts [(.chk [] (.c2 (.bin .lss) (.t 11) (.t 10))),
    (.set 12 (.o2 (.bin .lss) (.t 11) (.t 10)))]) (.seq (.cond 12 .skip (.exit 0)) (.seq (.block 1 (.seq (.sts [(.chk [] (.c2 (.idxA 1) (.t 9) (.t 11))),
    (.chk [] (.c1 .ld1 (.o2 (.idxA 1) (.t 9) (.t 11)))),
    (.set 5 (.o1 .ld1 (.o2 (.idxA 1) (.t 9) (.t 11))))]) (.seq (.sts [(.eff [] (some 16) (.call 71) [(.t 5)] []),
    (.set 6 (.t 16))]) (.block 2 (.seq (.sts [(.chk [] (.c2 (.bin .neq) (.t 6) (.c (.int .u8 0)))),
    (.set 26 (.o2 (.bin .neq) (.t 6) (.c (.int .u8 0))))]) (.cond 26 (.sts [(.eff [] (some 30) (.bsl 5 1 2 [(.int .u8 0), (.int .u8 0)] [0, 1]) [(.c (.int .u8 92)), (.t 6)] []),
    (.eff [] (some 31) (.call 72) [(.t 3), (.t 30)] [])]) (.seq (.sts [(.chk [] (.c2 (.bin .geq) (.t 5) (.c (.int .u8 32)))),
    (.chk [((.o2 (.bin .geq) (.t 5) (.c (.int .u8 32))), true)] (.c2 (.bin .leq) (.t 5) (.c (.int .u8 126)))),
    (.chk [] (.c3 .pick (.o2 (.bin .geq) (.t 5) (.c (.int .u8 32))) (.o2 (.bin .leq) (.t 5) (.c (.int .u8 126))) (.c (.bool false)))),
    (.set 32 (.o3 .pick (.o2 (.bin .geq) (.t 5) (.c (.int .u8 32))) (.o2 (.bin .leq) (.t 5) (.c (.int .u8 126))) (.c (.bool false))))]) (.cond 32 (.sts [(.eff [] (some 40) (.call 18) [(.t 3), (.t 5)] [])]) (.seq (.sts [(.eff [] (some 17) (.call 28) [(.t 3), (.c (str [92, 120]))] [])]) (.seq (.sts [(.chk [] (.c2 (.bits .shr) (.t 5) (.c (.int .u64 4)))),
    (.chk [] (.c2 .idxS (.c (str [48, 49, 50, 51, 52, 53, 54, 55, 56, 57, 97, 98, 99, 100, 101, 102])) (.o2 (.bits .shr) (.t 5) (.c (.int .u64 4))))),
    (.eff [] (some 21) (.call 18) [(.t 3), (.o2 .idxS (.c (str [48, 49, 50, 51, 52, 53, 54, 55, 56, 57, 97, 98, 99, 100, 101, 102])) (.o2 (.bits .shr) (.t 5) (.c (.int .u64 4))))] [])]) (.sts [(.chk [] (.c2 (.bits .and) (.t 5) (.c (.int .u8 15)))),
    (.chk [] (.c2 .idxS (.c (str [48, 49, 50, 51, 52, 53, 54, 55, 56, 57, 97, 98, 99, 100, 101, 102])) (.o2 (.bits .and) (.t 5) (.c (.int .u8 15))))),
    (.eff [] (some 25) (.call 18) [(.t 3), (.o2 .idxS (.c (str [48, 49, 50, 51, 52, 53, 54, 55, 56, 57, 97, 98, 99, 100, 101, 102])) (.o2 (.bits .and) (.t 5) (.c (.int .u8 15))))] [])]))))))))))) (.sts [(.chk [] (.c2 (.bin .add) (.t 11) (.c (.int .i64 1)))),
    (.set 41 (.o2 (.bin .add) (.t 11) (.c (.int .i64 1)))),
    (.set 11 (.t 41))]))))
def syQuoted_S : S :=
  (.seq (.sts [(.set 2 (.c (str [])))]) (.seq (.sts [(.eff [] (some 3) (.alloc 55 #[(.pointer none), (.slice none 0 0)]) [] [])]) (.seq (.sts [(.eff [] (some 7) (.call 18) [(.t 3), (.c (.int .u8 34))] [])]) (.seq (.seq (.sts [(.eff [] (some 9) (.s2b 5) [(.t 0)] []),
    (.chk [] (.c1 .len (.t 9))),
    (.set 10 (.o1 .len (.t 9))),
    (.set 11 (.c (.int .i64 0)))]) (.block 0 (.loop syQuoted_L1))) (.seq (.sts [(.eff [] (some 42) (.call 18) [(.t 3), (.c (.int .u8 34))] [])]) (.seq (.sts [(.eff [] (some 43) (.call 19) [(.t 3)] []),
    (.set 2 (.t 43))]) .ret))))))
def syQuoted_E : Res := [(none, (.t 2))]
theorem syQuoted_C : Try.f69.body.bind (comp Try.prog syQuoted_M Try.f69.ntmps) = some syQuoted_S := by kernel_rfl
theorem syQuoted_R : resE Try.prog syQuoted_M Try.f69.results.toList = some syQuoted_E := by kernel_rfl
theorem syQuoted_H (G : Ctr) (hG : GOk Try.prog G) (a0 : Value) {h : H} {K : Value → H → Prop} {KP : List PanicEntry → H → Prop} (Hw : wpS G syQuoted_S (retQ syQuoted_E (callK K KP)) (envOf 0 [a0] env0) h) : HCX Try.prog 69 [a0] h K KP :=
  .inl ⟨by kernel_rfl, hc_of mixed hG Try.func69 syQuoted_C syQuoted_R (of_decide_eq_true (by kernel_rfl)) Hw⟩
def syLetter_M : Nat → Bool := fun i => Nat.testBit 5405 i
def syLetter_S : S :=
  (.seq (.sts [(.set 2 (.c (.int .u8 0)))]) (.seq (.seq (.sts [(.set 3 (.t 0))]) (.block 0 (.seq (.seq (.sts [(.chk [] (.c2 (.bin .eql) (.t 3) (.c (.int .u8 34)))),
    (.set 4 (.o2 (.bin .eql) (.t 3) (.c (.int .u8 34))))]) (.cond 4 .skip (.sts [(.chk [] (.c2 (.bin .eql) (.t 3) (.c (.int .u8 92)))),
    (.set 4 (.o2 (.bin .eql) (.t 3) (.c (.int .u8 92))))]))) (.cond 4 (.seq (.sts [(.set 2 (.t 0))]) .ret) (.seq (.sts [(.chk [] (.c2 (.bin .eql) (.t 3) (.c (.int .u8 10)))),
    (.set 8 (.o2 (.bin .eql) (.t 3) (.c (.int .u8 10))))]) (.cond 8 (.seq (.sts [(.set 2 (.c (.int .u8 110)))]) .ret) (.seq (.sts [(.chk [] (.c2 (.bin .eql) (.t 3) (.c (.int .u8 9)))),
    (.set 10 (.o2 (.bin .eql) (.t 3) (.c (.int .u8 9))))]) (.cond 10 (.seq (.sts [(.set 2 (.c (.int .u8 116)))]) .ret) (.seq (.sts [(.chk [] (.c2 (.bin .eql) (.t 3) (.c (.int .u8 13)))),
    (.set 12 (.o2 (.bin .eql) (.t 3) (.c (.int .u8 13))))]) (.cond 12 (.seq (.sts [(.set 2 (.c (.int .u8 114)))]) .ret) .skip)))))))))) (.seq (.sts [(.set 2 (.c (.int .u8 0)))]) .ret)))
def syLetter_E : Res := [(none, (.t 2))]
theorem syLetter_C : Try.f71.body.bind (comp Try.prog syLetter_M Try.f71.ntmps) = some syLetter_S := by kernel_rfl
theorem syLetter_R : resE Try.prog syLetter_M Try.f71.results.toList = some syLetter_E := by kernel_rfl
theorem syLetter_H (G : Ctr) (hG : GOk Try.prog G) (a0 : Value) {h : H} {K : Value → H → Prop} {KP : List PanicEntry → H → Prop} (Hw : wpS G syLetter_S (retQ syLetter_E (callK K KP)) (envOf 0 [a0] env0) h) : HCX Try.prog 71 [a0] h K KP :=
  .inl ⟨by kernel_rfl, hc_of mixed hG Try.func71 syLetter_C syLetter_R (of_decide_eq_true (by kernel_rfl)) Hw⟩
def sbWriteString_M : Nat → Bool := fun i => Nat.testBit 51 i
def sbWriteString_S : S :=
  (.seq (.sts [(.set 4 (.c (.int .i64 0))),
    (.set 5 (.c .nilIface))]) (.seq (.sts [(.eff [] (some 7) (.call 31) [(.t 0)] [])]) (.seq (.sts [(.chk [] (.c1 .nilck (.t 0))),
    (.chk [] (.c1 (.fld 1) (.t 0))),
    (.chk [] (.c1 .ld1 (.o1 (.fld 1) (.t 0)))),
    (.set 12 (.o1 .ld1 (.o1 (.fld 1) (.t 0)))),
    (.eff [] (some 14) (.apps 5) [(.t 12), (.t 1)] []),
    (.chk [] (.c1 .nilck (.t 0))),
    (.chk [] (.c1 (.fld 1) (.t 0))),
    (.eff [] none (.store 1) [(.o1 (.fld 1) (.t 0)), (.t 14)] [])]) (.seq (.sts [(.chk [] (.c1 .lens (.t 1))),
    (.set 4 (.o1 .lens (.t 1))),
    (.set 5 (.c .nilIface))]) .ret))))
def sbWriteString_E : Res := [(none, (.t 4)), (none, (.t 5))]
theorem sbWriteString_C : Try.f28.body.bind (comp Try.prog sbWriteString_M Try.f28.ntmps) = some sbWriteString_S := by kernel_rfl
theorem sbWriteString_R : resE Try.prog sbWriteString_M Try.f28.results.toList = some sbWriteString_E := by kernel_rfl
theorem sbWriteString_H (G : Ctr) (hG : GOk Try.prog G) (a0 : Value) (a1 : Value) {h : H} {K : Value → H → Prop} {KP : List PanicEntry → H → Prop} (Hw : wpS G sbWriteString_S (retQ sbWriteString_E (callK K KP)) (envOf 0 [a0, a1] env0) h) : HCX Try.prog 28 [a0, a1] h K KP :=
  .inl ⟨by kernel_rfl, hc_of mixed hG Try.func28 sbWriteString_C sbWriteString_R (of_decide_eq_true (by kernel_rfl)) Hw⟩
def sbWriteByte_M : Nat → Bool := fun i => Nat.testBit 19 i
def sbWriteByte_S : S :=
  (.seq (.sts [(.set 4 (.c .nilIface))]) (.seq (.sts [(.eff [] (some 6) (.call 31) [(.t 0)] [])]) (.seq (.sts [(.chk [] (.c1 .nilck (.t 0))),
    (.chk [] (.c1 (.fld 1) (.t 0))),
    (.chk [] (.c1 .ld1 (.o1 (.fld 1) (.t 0)))),
    (.set 11 (.o1 .ld1 (.o1 (.fld 1) (.t 0)))),
    (.eff [] (some 13) (.bsl 5 1 1 [(.int .u8 0)] [0]) [(.t 1)] []),
    (.eff [] (some 14) (.app 5 1 1 [(.int .u8 0)]) [(.t 11), (.t 13)] []),
    (.chk [] (.c1 .nilck (.t 0))),
    (.chk [] (.c1 (.fld 1) (.t 0))),
    (.eff [] none (.store 1) [(.o1 (.fld 1) (.t 0)), (.t 14)] [])]) (.seq (.sts [(.set 4 (.c .nilIface))]) .ret))))
def sbWriteByte_E : Res := [(none, (.t 4))]
theorem sbWriteByte_C : Try.f18.body.bind (comp Try.prog sbWriteByte_M Try.f18.ntmps) = some sbWriteByte_S := by kernel_rfl
theorem sbWriteByte_R : resE Try.prog sbWriteByte_M Try.f18.results.toList = some sbWriteByte_E := by kernel_rfl
theorem sbWriteByte_H (G : Ctr) (hG : GOk Try.prog G) (a0 : Value) (a1 : Value) {h : H} {K : Value → H → Prop} {KP : List PanicEntry → H → Prop} (Hw : wpS G sbWriteByte_S (retQ sbWriteByte_E (callK K KP)) (envOf 0 [a0, a1] env0) h) : HCX Try.prog 18 [a0, a1] h K KP :=
  .inl ⟨by kernel_rfl, hc_of mixed hG Try.func18 sbWriteByte_C sbWriteByte_R (of_decide_eq_true (by kernel_rfl)) Hw⟩
def sbWrite_M : Nat → Bool := fun i => Nat.testBit 51 i
def sbWrite_S : S :=
  (.seq (.sts [(.set 4 (.c (.int .i64 0))),
    (.set 5 (.c .nilIface))]) (.seq (.sts [(.eff [] (some 7) (.call 31) [(.t 0)] [])]) (.seq (.sts [(.chk [] (.c1 .nilck (.t 0))),
    (.chk [] (.c1 (.fld 1) (.t 0))),
    (.chk [] (.c1 .ld1 (.o1 (.fld 1) (.t 0)))),
    (.set 12 (.o1 .ld1 (.o1 (.fld 1) (.t 0)))),
    (.eff [] (some 14) (.app 5 1 1 [(.int .u8 0)]) [(.t 12), (.t 1)] []),
    (.chk [] (.c1 .nilck (.t 0))),
    (.chk [] (.c1 (.fld 1) (.t 0))),
    (.eff [] none (.store 1) [(.o1 (.fld 1) (.t 0)), (.t 14)] [])]) (.seq (.sts [(.chk [] (.c1 .len (.t 1))),
    (.set 4 (.o1 .len (.t 1))),
    (.set 5 (.c .nilIface))]) .ret))))
def sbWrite_E : Res := [(none, (.t 4)), (none, (.t 5))]
theorem sbWrite_C : Try.f72.body.bind (comp Try.prog sbWrite_M Try.f72.ntmps) = some sbWrite_S := by kernel_rfl
theorem sbWrite_R : resE Try.prog sbWrite_M Try.f72.results.toList = some sbWrite_E := by kernel_rfl
theorem sbWrite_H (G : Ctr) (hG : GOk Try.prog G) (a0 : Value) (a1 : Value) {h : H} {K : Value → H → Prop} {KP : List PanicEntry → H → Prop} (Hw : wpS G sbWrite_S (retQ sbWrite_E (callK K KP)) (envOf 0 [a0, a1] env0) h) : HCX Try.prog 72 [a0, a1] h K KP :=
  .inl ⟨by kernel_rfl, hc_of mixed hG Try.func72 sbWrite_C sbWrite_R (of_decide_eq_true (by kernel_rfl)) Hw⟩
end Go.Proofs.Ytdaldilmjhdpaaa
