/- The small statements of functions of the program, as the closed computation gives them (written by a program of ours; checked by the kernel below). -/
import Derived.Test.YtdaldilmjhdpaaaEvB
import Derived.Test.YtdaldilmjhdpaaaProg
import Derived.KernelRfl
import Derived.Test.YtdaldilmjhdpaaaWellS
namespace Go.Proofs.Ytdaldilmjhdpaaa
open Go Go.Ev
def KvS_l0 : List UInt8 := [48, 48, 48, 49, 48, 50, 48, 51, 48, 52, 48, 53, 48, 54, 48, 55, 48, 56, 48, 57, 49, 48, 49, 49, 49, 50, 49, 51, 49, 52, 49, 53, 49, 54, 49, 55, 49, 56, 49, 57, 50, 48, 50, 49, 50, 50, 50, 51, 50, 52, 50, 53, 50, 54, 50, 55, 50, 56, 50, 57, 51, 48, 51, 49, 51, 50, 51, 51, 51, 52, 51, 53, 51, 54, 51, 55, 51, 56, 51, 57, 52, 48, 52, 49, 52, 50, 52, 51, 52, 52, 52, 53, 52, 54, 52, 55, 52, 56, 52, 57, 53, 48, 53, 49, 53, 50, 53, 51, 53, 52, 53, 53, 53, 54, 53, 55, 53, 56, 53, 57, 54, 48, 54, 49, 54, 50, 54, 51, 54, 52, 54, 53, 54, 54, 54, 55, 54, 56, 54, 57, 55, 48, 55, 49, 55, 50, 55, 51, 55, 52, 55, 53, 55, 54, 55, 55, 55, 56, 55, 57, 56, 48, 56, 49, 56, 50, 56, 51, 56, 52, 56, 53, 56, 54, 56, 55, 56, 56, 56, 57, 57, 48, 57, 49, 57, 50, 57, 51, 57, 52, 57, 53, 57, 54, 57, 55, 57, 56, 57, 57]
def cvFormatInt_M : Nat → Bool := fun i => Nat.testBit 19 i
def cvFormatInt_S : S :=
  (.seq (.sts [(.set 4 (.c (str [])))]) (.seq (.sts [(.eff [] (some 7) (.call 70) [(.t 0), (.t 1)] []),
    (.set 4 (.t 7))]) .ret))
def cvFormatInt_E : Res := [(none, (.t 4))]
theorem cvFormatInt_C : Try.f68.body.bind (comp Try.prog cvFormatInt_M Try.f68.ntmps) = some cvFormatInt_S := by kernel_rfl
theorem cvFormatInt_R : resE Try.prog cvFormatInt_M Try.f68.results.toList = some cvFormatInt_E := by kernel_rfl
theorem cvFormatInt_H (G : Ctr) (hG : GOk Try.prog G) (a0 : Value) (a1 : Value) {h : H} {K : Value → H → Prop} {KP : List PanicEntry → H → Prop} (Hw : wpS G cvFormatInt_S (retQ cvFormatInt_E (callK K KP)) (envOf 0 [a0, a1] env0) h) : HCX Try.prog 68 [a0, a1] h K KP :=
  .inl ⟨by kernel_rfl, hc_of mixed hG Try.func68 cvFormatInt_C cvFormatInt_R (of_decide_eq_true (by kernel_rfl)) Hw⟩
def cvFormat_M : Nat → Bool := fun i => Nat.testBit 17188391667 i
def cvFormat_S : S :=
  (.seq (.sts [(.set 4 (.c (str [])))]) (.seq (.seq (.sts [(.chk [] (.c2 (.bin .eql) (.t 1) (.c (.int .i64 10)))),
    (.set 11 (.o2 (.bin .eql) (.t 1) (.c (.int .i64 10))))]) (.cond 11 (.seq (.seq (.sts [(.chk [] (.c2 (.bin .leq) (.c (.int .i64 0)) (.t 0))),
    (.chk [((.o2 (.bin .leq) (.c (.int .i64 0)) (.t 0)), true)] (.c2 (.bin .lss) (.t 0) (.c (.int .i64 100)))),
    (.chk [] (.c3 .pick (.o2 (.bin .leq) (.c (.int .i64 0)) (.t 0)) (.o2 (.bin .lss) (.t 0) (.c (.int .i64 100))) (.c (.bool false)))),
    (.set 17 (.o3 .pick (.o2 (.bin .leq) (.c (.int .i64 0)) (.t 0)) (.o2 (.bin .lss) (.t 0) (.c (.int .i64 100))) (.c (.bool false))))]) (.cond 17 (.seq (.sts [(.eff [] (some 19) (.call 73) [(.t 0)] []),
    (.set 4 (.t 19))]) .ret) .skip)) (.seq (.sts [(.eff [] (some 5) (.alloc 117 #[(.int .u8 0), (.int .u8 0), (.int .u8 0), (.int .u8 0), (.int .u8 0), (.int .u8 0), (.int .u8 0), (.int .u8 0), (.int .u8 0), (.int .u8 0), (.int .u8 0), (.int .u8 0), (.int .u8 0), (.int .u8 0), (.int .u8 0), (.int .u8 0), (.int .u8 0), (.int .u8 0), (.int .u8 0), (.int .u8 0), (.int .u8 0), (.int .u8 0), (.int .u8 0), (.int .u8 0)]) [] [])]) (.seq (.sts [(.chk [] (.c1 (.conv .u64) (.t 0))),
    (.set 6 (.o1 (.conv .u64) (.t 0)))]) (.seq (.seq (.sts [(.chk [] (.c2 (.bin .lss) (.t 0) (.c (.int .i64 0)))),
    (.set 23 (.o2 (.bin .lss) (.t 0) (.c (.int .i64 0))))]) (.cond 23 (.sts [(.chk [] (.c1 .neg (.t 6))),
    (.set 25 (.o1 .neg (.t 6))),
    (.set 6 (.t 25))]) .skip)) (.seq (.sts [(.eff [] (some 27) (.call 74) [(.t 6)] []),
    (.set 7 (.t 27))]) (.seq (.sts [(.chk [] (.c2 (.bin .add) (.c (.int .i64 1)) (.t 7))),
    (.chk [] (.c3 (.cutP 24 1) (.t 5) (.c (.int .i64 1)) (.o2 (.bin .add) (.c (.int .i64 1)) (.t 7)))),
    (.eff [] (some 32) (.call 75) [(.o3 (.cutP 24 1) (.t 5) (.c (.int .i64 1)) (.o2 (.bin .add) (.c (.int .i64 1)) (.t 7))), (.t 6)] [])]) (.seq (.seq (.sts [(.chk [] (.c2 (.bin .lss) (.t 0) (.c (.int .i64 0)))),
    (.set 34 (.o2 (.bin .lss) (.t 0) (.c (.int .i64 0))))]) (.cond 34 (.seq (.sts [(.chk [] (.c2 (.idxP 24 1) (.t 5) (.c (.int .i64 0)))),
    (.eff [] none (.store 1) [(.o2 (.idxP 24 1) (.t 5) (.c (.int .i64 0))), (.c (.int .u8 45))] [])]) (.seq (.sts [(.chk [] (.c2 (.bin .add) (.c (.int .i64 1)) (.t 7))),
    (.chk [] (.c2 (.cutPH 24) (.t 5) (.o2 (.bin .add) (.c (.int .i64 1)) (.t 7)))),
    (.eff [] (some 39) .b2s [(.o2 (.cutPH 24) (.t 5) (.o2 (.bin .add) (.c (.int .i64 1)) (.t 7)))] []),
    (.set 4 (.t 39))]) .ret)) .skip)) (.seq (.sts [(.chk [] (.c2 (.bin .add) (.c (.int .i64 1)) (.t 7))),
    (.chk [] (.c3 (.cutP 24 1) (.t 5) (.c (.int .i64 1)) (.o2 (.bin .add) (.c (.int .i64 1)) (.t 7)))),
    (.eff [] (some 43) .b2s [(.o3 (.cutP 24 1) (.t 5) (.c (.int .i64 1)) (.o2 (.bin .add) (.c (.int .i64 1)) (.t 7)))] []),
    (.set 4 (.t 43))]) .ret)))))))) .skip)) (.seq (.sts [(.chk [] (.c1 (.conv .u64) (.t 0))),
    (.chk [] (.c2 (.bin .lss) (.t 0) (.c (.int .i64 0)))),
    (.eff [] (some 50) (.call 76) [(.c (.slice none 0 0)), (.o1 (.conv .u64) (.t 0)), (.t 1), (.o2 (.bin .lss) (.t 0) (.c (.int .i64 0))), (.c (.bool false))] []),
    (.chk [] (.c1 (.ext 0) (.t 50))),
    (.chk [] (.c1 (.ext 1) (.t 50))),
    (.set 9 (.o1 (.ext 1) (.t 50)))]) (.seq (.sts [(.set 4 (.t 9))]) .ret))))
def cvFormat_E : Res := [(none, (.t 4))]
theorem cvFormat_C : Try.f70.body.bind (comp Try.prog cvFormat_M Try.f70.ntmps) = some cvFormat_S := by kernel_rfl
theorem cvFormat_R : resE Try.prog cvFormat_M Try.f70.results.toList = some cvFormat_E := by kernel_rfl
theorem cvFormat_H (G : Ctr) (hG : GOk Try.prog G) (a0 : Value) (a1 : Value) {h : H} {K : Value → H → Prop} {KP : List PanicEntry → H → Prop} (Hw : wpS G cvFormat_S (retQ cvFormat_E (callK K KP)) (envOf 0 [a0, a1] env0) h) : HCX Try.prog 70 [a0, a1] h K KP :=
  .inl ⟨by kernel_rfl, hc_of mixed hG Try.func70 cvFormat_C cvFormat_R (of_decide_eq_true (by kernel_rfl)) Hw⟩
def cvSmall_M : Nat → Bool := fun i => Nat.testBit 21 i
def cvSmall_S : S :=
  (.seq (.sts [(.set 2 (.c (str [])))]) (.seq (.seq (.sts [(.chk [] (.c2 (.bin .lss) (.t 0) (.c (.int .i64 10)))),
    (.set 4 (.o2 (.bin .lss) (.t 0) (.c (.int .i64 10))))]) (.cond 4 (.seq (.sts [(.chk [] (.c2 (.bin .add) (.t 0) (.c (.int .i64 1)))),
    (.chk [] (.c3 .sub (.c (str [48, 49, 50, 51, 52, 53, 54, 55, 56, 57, 97, 98, 99, 100, 101, 102, 103, 104, 105, 106, 107, 108, 109, 110, 111, 112, 113, 114, 115, 116, 117, 118, 119, 120, 121, 122])) (.t 0) (.o2 (.bin .add) (.t 0) (.c (.int .i64 1))))),
    (.set 2 (.o3 .sub (.c (str [48, 49, 50, 51, 52, 53, 54, 55, 56, 57, 97, 98, 99, 100, 101, 102, 103, 104, 105, 106, 107, 108, 109, 110, 111, 112, 113, 114, 115, 116, 117, 118, 119, 120, 121, 122])) (.t 0) (.o2 (.bin .add) (.t 0) (.c (.int .i64 1)))))]) .ret) .skip)) (.seq (.sts [(.chk [] (.c2 (.bin .mul) (.t 0) (.c (.int .i64 2)))),
    (.chk [] (.c2 (.bin .mul) (.t 0) (.c (.int .i64 2)))),
    (.chk [] (.c2 (.bin .add) (.o2 (.bin .mul) (.t 0) (.c (.int .i64 2))) (.c (.int .i64 2)))),
    (.chk [] (.c3 .sub (.c (str KvS_l0)) (.o2 (.bin .mul) (.t 0) (.c (.int .i64 2))) (.o2 (.bin .add) (.o2 (.bin .mul) (.t 0) (.c (.int .i64 2))) (.c (.int .i64 2))))),
    (.set 2 (.o3 .sub (.c (str KvS_l0)) (.o2 (.bin .mul) (.t 0) (.c (.int .i64 2))) (.o2 (.bin .add) (.o2 (.bin .mul) (.t 0) (.c (.int .i64 2))) (.c (.int .i64 2)))))]) .ret)))
def cvSmall_E : Res := [(none, (.t 2))]
theorem cvSmall_C : Try.f73.body.bind (comp Try.prog cvSmall_M Try.f73.ntmps) = some cvSmall_S := by kernel_rfl
theorem cvSmall_R : resE Try.prog cvSmall_M Try.f73.results.toList = some cvSmall_E := by kernel_rfl
theorem cvSmall_H (G : Ctr) (hG : GOk Try.prog G) (a0 : Value) {h : H} {K : Value → H → Prop} {KP : List PanicEntry → H → Prop} (Hw : wpS G cvSmall_S (retQ cvSmall_E (callK K KP)) (envOf 0 [a0] env0) h) : HCX Try.prog 73 [a0] h K KP :=
  .inl ⟨by kernel_rfl, hc_of mixed hG Try.func73 cvSmall_C cvSmall_R (of_decide_eq_true (by kernel_rfl)) Hw⟩
def cvDigits_M : Nat → Bool := fun i => Nat.testBit 13 i
def cvDigits_S : S :=
  (.seq (.sts [(.set 2 (.c (.int .i64 0)))]) (.seq (.sts [(.eff [] (some 5) (.call 78) [(.t 0)] []),
    (.eff [] (some 6) (.call 77) [(.t 5)] []),
    (.set 3 (.t 6))]) (.seq (.sts [(.chk [] (.c2 (.idxP 20 1) (.c (.pointer (some ⟨0, 0, none⟩))) (.t 3))),
    (.chk [] (.c1 .ld1 (.o2 (.idxP 20 1) (.c (.pointer (some ⟨0, 0, none⟩))) (.t 3)))),
    (.chk [] (.c2 (.bin .geq) (.t 0) (.o1 .ld1 (.o2 (.idxP 20 1) (.c (.pointer (some ⟨0, 0, none⟩))) (.t 3))))),
    (.set 12 (.o2 (.bin .geq) (.t 0) (.o1 .ld1 (.o2 (.idxP 20 1) (.c (.pointer (some ⟨0, 0, none⟩))) (.t 3))))),
    (.eff [] (some 13) (.call 79) [(.t 12)] []),
    (.chk [] (.c2 (.bin .add) (.t 3) (.t 13))),
    (.set 2 (.o2 (.bin .add) (.t 3) (.t 13)))]) .ret)))
def cvDigits_E : Res := [(none, (.t 2))]
theorem cvDigits_C : Try.f74.body.bind (comp Try.prog cvDigits_M Try.f74.ntmps) = some cvDigits_S := by kernel_rfl
theorem cvDigits_R : resE Try.prog cvDigits_M Try.f74.results.toList = some cvDigits_E := by kernel_rfl
theorem cvDigits_H (G : Ctr) (hG : GOk Try.prog G) (a0 : Value) {h : H} {K : Value → H → Prop} {KP : List PanicEntry → H → Prop} (Hw : wpS G cvDigits_S (retQ cvDigits_E (callK K KP)) (envOf 0 [a0] env0) h) : HCX Try.prog 74 [a0] h K KP :=
  .inl ⟨by kernel_rfl, hc_of mixed hG Try.func74 cvDigits_C cvDigits_R (of_decide_eq_true (by kernel_rfl)) Hw⟩
def cvBase10_M : Nat → Bool := fun i => Nat.testBit 2923003971560093291123168138537876760321514930163 i
def cvBase10_L1 : S :=
  (.seq (.seq (.sts [(.chk [] (.c2 (.bin .geq) (.t 4) (.c (.int .i64 8)))),
    (.set 20 (.o2 (.bin .geq) (.t 4) (.c (.int .i64 8))))]) (.cond 20 .skip (.exit 0))) (.block 1 (.seq (.sts [(.chk [] (.c2 (.bin .rem) (.t 1) (.c (.int .u64 100000000)))),
    (.chk [] (.c1 (.conv .u32) (.o2 (.bin .rem) (.t 1) (.c (.int .u64 100000000))))),
    (.set 5 (.o1 (.conv .u32) (.o2 (.bin .rem) (.t 1) (.c (.int .u64 100000000)))))]) (.seq (.sts [(.chk [] (.c2 (.bin .quo) (.t 1) (.c (.int .u64 100000000)))),
    (.set 25 (.o2 (.bin .quo) (.t 1) (.c (.int .u64 100000000)))),
    (.set 1 (.t 25))]) (.seq (.sts [(.chk [] (.c2 (.bin .quo) (.t 5) (.c (.int .u32 10000)))),
    (.chk [] (.c2 (.bin .rem) (.t 5) (.c (.int .u32 10000)))),
    (.set 6 (.o2 (.bin .quo) (.t 5) (.c (.int .u32 10000)))),
    (.set 7 (.o2 (.bin .rem) (.t 5) (.c (.int .u32 10000))))]) (.seq (.sts [(.chk [] (.c2 (.bin .quo) (.t 7) (.c (.int .u32 100)))),
    (.chk [] (.c2 (.bin .mul) (.o2 (.bin .quo) (.t 7) (.c (.int .u32 100))) (.c (.int .u32 2)))),
    (.chk [] (.c2 (.bin .rem) (.t 7) (.c (.int .u32 100)))),
    (.chk [] (.c2 (.bin .mul) (.o2 (.bin .rem) (.t 7) (.c (.int .u32 100))) (.c (.int .u32 2)))),
    (.set 8 (.o2 (.bin .mul) (.o2 (.bin .quo) (.t 7) (.c (.int .u32 100))) (.c (.int .u32 2)))),
    (.set 9 (.o2 (.bin .mul) (.o2 (.bin .rem) (.t 7) (.c (.int .u32 100))) (.c (.int .u32 2))))]) (.seq (.sts [(.chk [] (.c2 (.bin .quo) (.t 6) (.c (.int .u32 100)))),
    (.chk [] (.c2 (.bin .mul) (.o2 (.bin .quo) (.t 6) (.c (.int .u32 100))) (.c (.int .u32 2)))),
    (.chk [] (.c2 (.bin .rem) (.t 6) (.c (.int .u32 100)))),
    (.chk [] (.c2 (.bin .mul) (.o2 (.bin .rem) (.t 6) (.c (.int .u32 100))) (.c (.int .u32 2)))),
    (.set 10 (.o2 (.bin .mul) (.o2 (.bin .quo) (.t 6) (.c (.int .u32 100))) (.c (.int .u32 2)))),
    (.set 11 (.o2 (.bin .mul) (.o2 (.bin .rem) (.t 6) (.c (.int .u32 100))) (.c (.int .u32 2))))]) (.seq (.sts [(.chk [] (.c2 (.bin .sub) (.t 4) (.c (.int .i64 1)))),
    (.chk [] (.c2 (.bin .sub) (.t 4) (.c (.int .i64 2)))),
    (.chk [] (.c2 (.bin .add) (.t 9) (.c (.int .u32 1)))),
    (.chk [] (.c2 .idxS (.c (str KvS_l0)) (.o2 (.bin .add) (.t 9) (.c (.int .u32 1))))),
    (.chk [] (.c2 .idxS (.c (str KvS_l0)) (.t 9))),
    (.chk [] (.c2 (.idxA 1) (.t 0) (.o2 (.bin .sub) (.t 4) (.c (.int .i64 1))))),
    (.eff [] none (.store 1) [(.o2 (.idxA 1) (.t 0) (.o2 (.bin .sub) (.t 4) (.c (.int .i64 1)))), (.o2 .idxS (.c (str KvS_l0)) (.o2 (.bin .add) (.t 9) (.c (.int .u32 1))))] []),
    (.chk [] (.c2 (.idxA 1) (.t 0) (.o2 (.bin .sub) (.t 4) (.c (.int .i64 2))))),
    (.eff [] none (.store 1) [(.o2 (.idxA 1) (.t 0) (.o2 (.bin .sub) (.t 4) (.c (.int .i64 2)))), (.o2 .idxS (.c (str KvS_l0)) (.t 9))] [])]) (.seq (.sts [(.chk [] (.c2 (.bin .sub) (.t 4) (.c (.int .i64 3)))),
    (.chk [] (.c2 (.bin .sub) (.t 4) (.c (.int .i64 4)))),
    (.chk [] (.c2 (.bin .add) (.t 8) (.c (.int .u32 1)))),
    (.chk [] (.c2 .idxS (.c (str KvS_l0)) (.o2 (.bin .add) (.t 8) (.c (.int .u32 1))))),
    (.chk [] (.c2 .idxS (.c (str KvS_l0)) (.t 8))),
    (.chk [] (.c2 (.idxA 1) (.t 0) (.o2 (.bin .sub) (.t 4) (.c (.int .i64 3))))),
    (.eff [] none (.store 1) [(.o2 (.idxA 1) (.t 0) (.o2 (.bin .sub) (.t 4) (.c (.int .i64 3)))), (.o2 .idxS (.c (str KvS_l0)) (.o2 (.bin .add) (.t 8) (.c (.int .u32 1))))] []),
    (.chk [] (.c2 (.idxA 1) (.t 0) (.o2 (.bin .sub) (.t 4) (.c (.int .i64 4))))),
    (.eff [] none (.store 1) [(.o2 (.idxA 1) (.t 0) (.o2 (.bin .sub) (.t 4) (.c (.int .i64 4)))), (.o2 .idxS (.c (str KvS_l0)) (.t 8))] [])]) (.seq (.sts [(.chk [] (.c2 (.bin .sub) (.t 4) (.c (.int .i64 5)))),
    (.chk [] (.c2 (.bin .sub) (.t 4) (.c (.int .i64 6)))),
    (.chk [] (.c2 (.bin .add) (.t 11) (.c (.int .u32 1)))),
    (.chk [] (.c2 .idxS (.c (str KvS_l0)) (.o2 (.bin .add) (.t 11) (.c (.int .u32 1))))),
    (.chk [] (.c2 .idxS (.c (str KvS_l0)) (.t 11))),
    (.chk [] (.c2 (.idxA 1) (.t 0) (.o2 (.bin .sub) (.t 4) (.c (.int .i64 5))))),
    (.eff [] none (.store 1) [(.o2 (.idxA 1) (.t 0) (.o2 (.bin .sub) (.t 4) (.c (.int .i64 5)))), (.o2 .idxS (.c (str KvS_l0)) (.o2 (.bin .add) (.t 11) (.c (.int .u32 1))))] []),
    (.chk [] (.c2 (.idxA 1) (.t 0) (.o2 (.bin .sub) (.t 4) (.c (.int .i64 6))))),
    (.eff [] none (.store 1) [(.o2 (.idxA 1) (.t 0) (.o2 (.bin .sub) (.t 4) (.c (.int .i64 6)))), (.o2 .idxS (.c (str KvS_l0)) (.t 11))] [])]) (.seq (.sts [(.chk [] (.c2 (.bin .sub) (.t 4) (.c (.int .i64 7)))),
    (.chk [] (.c2 (.bin .sub) (.t 4) (.c (.int .i64 8)))),
    (.chk [] (.c2 (.bin .add) (.t 10) (.c (.int .u32 1)))),
    (.chk [] (.c2 .idxS (.c (str KvS_l0)) (.o2 (.bin .add) (.t 10) (.c (.int .u32 1))))),
    (.chk [] (.c2 .idxS (.c (str KvS_l0)) (.t 10))),
    (.chk [] (.c2 (.idxA 1) (.t 0) (.o2 (.bin .sub) (.t 4) (.c (.int .i64 7))))),
    (.eff [] none (.store 1) [(.o2 (.idxA 1) (.t 0) (.o2 (.bin .sub) (.t 4) (.c (.int .i64 7)))), (.o2 .idxS (.c (str KvS_l0)) (.o2 (.bin .add) (.t 10) (.c (.int .u32 1))))] []),
    (.chk [] (.c2 (.idxA 1) (.t 0) (.o2 (.bin .sub) (.t 4) (.c (.int .i64 8))))),
    (.eff [] none (.store 1) [(.o2 (.idxA 1) (.t 0) (.o2 (.bin .sub) (.t 4) (.c (.int .i64 8)))), (.o2 .idxS (.c (str KvS_l0)) (.t 10))] [])]) (.sts [(.chk [] (.c2 (.bin .sub) (.t 4) (.c (.int .i64 8)))),
    (.set 95 (.o2 (.bin .sub) (.t 4) (.c (.int .i64 8)))),
    (.set 4 (.t 95))]))))))))))))
def cvBase10_S : S :=
  (.seq (.sts [(.chk [] (.c1 .len (.t 0))),
    (.set 4 (.o1 .len (.t 0)))]) (.seq (.block 0 (.loop cvBase10_L1)) (.seq (.sts [(.chk [] (.c1 (.conv .u32) (.t 1))),
    (.set 12 (.o1 (.conv .u32) (.t 1)))]) (.seq (.seq (.sts [(.chk [] (.c2 (.bin .geq) (.t 4) (.c (.int .i64 4)))),
    (.set 99 (.o2 (.bin .geq) (.t 4) (.c (.int .i64 4))))]) (.cond 99 (.seq (.sts [(.chk [] (.c2 (.bin .rem) (.t 12) (.c (.int .u32 10000)))),
    (.set 13 (.o2 (.bin .rem) (.t 12) (.c (.int .u32 10000))))]) (.seq (.sts [(.chk [] (.c2 (.bin .quo) (.t 12) (.c (.int .u32 10000)))),
    (.set 103 (.o2 (.bin .quo) (.t 12) (.c (.int .u32 10000)))),
    (.set 12 (.t 103))]) (.seq (.sts [(.chk [] (.c2 (.bin .quo) (.t 13) (.c (.int .u32 100)))),
    (.chk [] (.c2 (.bin .mul) (.o2 (.bin .quo) (.t 13) (.c (.int .u32 100))) (.c (.int .u32 2)))),
    (.chk [] (.c2 (.bin .rem) (.t 13) (.c (.int .u32 100)))),
    (.chk [] (.c2 (.bin .mul) (.o2 (.bin .rem) (.t 13) (.c (.int .u32 100))) (.c (.int .u32 2)))),
    (.set 14 (.o2 (.bin .mul) (.o2 (.bin .quo) (.t 13) (.c (.int .u32 100))) (.c (.int .u32 2)))),
    (.set 15 (.o2 (.bin .mul) (.o2 (.bin .rem) (.t 13) (.c (.int .u32 100))) (.c (.int .u32 2))))]) (.seq (.sts [(.chk [] (.c2 (.bin .sub) (.t 4) (.c (.int .i64 1)))),
    (.chk [] (.c2 (.bin .sub) (.t 4) (.c (.int .i64 2)))),
    (.chk [] (.c2 (.bin .add) (.t 15) (.c (.int .u32 1)))),
    (.chk [] (.c2 .idxS (.c (str KvS_l0)) (.o2 (.bin .add) (.t 15) (.c (.int .u32 1))))),
    (.chk [] (.c2 .idxS (.c (str KvS_l0)) (.t 15))),
    (.chk [] (.c2 (.idxA 1) (.t 0) (.o2 (.bin .sub) (.t 4) (.c (.int .i64 1))))),
    (.eff [] none (.store 1) [(.o2 (.idxA 1) (.t 0) (.o2 (.bin .sub) (.t 4) (.c (.int .i64 1)))), (.o2 .idxS (.c (str KvS_l0)) (.o2 (.bin .add) (.t 15) (.c (.int .u32 1))))] []),
    (.chk [] (.c2 (.idxA 1) (.t 0) (.o2 (.bin .sub) (.t 4) (.c (.int .i64 2))))),
    (.eff [] none (.store 1) [(.o2 (.idxA 1) (.t 0) (.o2 (.bin .sub) (.t 4) (.c (.int .i64 2)))), (.o2 .idxS (.c (str KvS_l0)) (.t 15))] [])]) (.seq (.sts [(.chk [] (.c2 (.bin .sub) (.t 4) (.c (.int .i64 3)))),
    (.chk [] (.c2 (.bin .sub) (.t 4) (.c (.int .i64 4)))),
    (.chk [] (.c2 (.bin .add) (.t 14) (.c (.int .u32 1)))),
    (.chk [] (.c2 .idxS (.c (str KvS_l0)) (.o2 (.bin .add) (.t 14) (.c (.int .u32 1))))),
    (.chk [] (.c2 .idxS (.c (str KvS_l0)) (.t 14))),
    (.chk [] (.c2 (.idxA 1) (.t 0) (.o2 (.bin .sub) (.t 4) (.c (.int .i64 3))))),
    (.eff [] none (.store 1) [(.o2 (.idxA 1) (.t 0) (.o2 (.bin .sub) (.t 4) (.c (.int .i64 3)))), (.o2 .idxS (.c (str KvS_l0)) (.o2 (.bin .add) (.t 14) (.c (.int .u32 1))))] []),
    (.chk [] (.c2 (.idxA 1) (.t 0) (.o2 (.bin .sub) (.t 4) (.c (.int .i64 4))))),
    (.eff [] none (.store 1) [(.o2 (.idxA 1) (.t 0) (.o2 (.bin .sub) (.t 4) (.c (.int .i64 4)))), (.o2 .idxS (.c (str KvS_l0)) (.t 14))] [])]) (.sts [(.chk [] (.c2 (.bin .sub) (.t 4) (.c (.int .i64 4)))),
    (.set 137 (.o2 (.bin .sub) (.t 4) (.c (.int .i64 4)))),
    (.set 4 (.t 137))])))))) .skip)) (.seq (.seq (.sts [(.chk [] (.c2 (.bin .geq) (.t 4) (.c (.int .i64 2)))),
    (.set 139 (.o2 (.bin .geq) (.t 4) (.c (.int .i64 2))))]) (.cond 139 (.seq (.sts [(.chk [] (.c2 (.bin .rem) (.t 12) (.c (.int .u32 100)))),
    (.chk [] (.c2 (.bin .mul) (.o2 (.bin .rem) (.t 12) (.c (.int .u32 100))) (.c (.int .u32 2)))),
    (.set 16 (.o2 (.bin .mul) (.o2 (.bin .rem) (.t 12) (.c (.int .u32 100))) (.c (.int .u32 2))))]) (.seq (.sts [(.chk [] (.c2 (.bin .quo) (.t 12) (.c (.int .u32 100)))),
    (.set 144 (.o2 (.bin .quo) (.t 12) (.c (.int .u32 100)))),
    (.set 12 (.t 144))]) (.seq (.sts [(.chk [] (.c2 (.bin .sub) (.t 4) (.c (.int .i64 1)))),
    (.chk [] (.c2 (.bin .sub) (.t 4) (.c (.int .i64 2)))),
    (.chk [] (.c2 (.bin .add) (.t 16) (.c (.int .u32 1)))),
    (.chk [] (.c2 .idxS (.c (str KvS_l0)) (.o2 (.bin .add) (.t 16) (.c (.int .u32 1))))),
    (.chk [] (.c2 .idxS (.c (str KvS_l0)) (.t 16))),
    (.chk [] (.c2 (.idxA 1) (.t 0) (.o2 (.bin .sub) (.t 4) (.c (.int .i64 1))))),
    (.eff [] none (.store 1) [(.o2 (.idxA 1) (.t 0) (.o2 (.bin .sub) (.t 4) (.c (.int .i64 1)))), (.o2 .idxS (.c (str KvS_l0)) (.o2 (.bin .add) (.t 16) (.c (.int .u32 1))))] []),
    (.chk [] (.c2 (.idxA 1) (.t 0) (.o2 (.bin .sub) (.t 4) (.c (.int .i64 2))))),
    (.eff [] none (.store 1) [(.o2 (.idxA 1) (.t 0) (.o2 (.bin .sub) (.t 4) (.c (.int .i64 2)))), (.o2 .idxS (.c (str KvS_l0)) (.t 16))] [])]) (.sts [(.chk [] (.c2 (.bin .sub) (.t 4) (.c (.int .i64 2)))),
    (.set 159 (.o2 (.bin .sub) (.t 4) (.c (.int .i64 2)))),
    (.set 4 (.t 159))])))) .skip)) (.seq (.sts [(.chk [] (.c2 (.bin .gtr) (.t 4) (.c (.int .i64 0)))),
    (.set 161 (.o2 (.bin .gtr) (.t 4) (.c (.int .i64 0))))]) (.cond 161 (.sts [(.chk [] (.c2 (.bin .add) (.c (.int .u32 48)) (.t 12))),
    (.chk [] (.c1 (.conv .u8) (.o2 (.bin .add) (.c (.int .u32 48)) (.t 12)))),
    (.chk [] (.c2 (.idxA 1) (.t 0) (.c (.int .i64 0)))),
    (.eff [] none (.store 1) [(.o2 (.idxA 1) (.t 0) (.c (.int .i64 0))), (.o1 (.conv .u8) (.o2 (.bin .add) (.c (.int .u32 48)) (.t 12)))] [])]) .skip)))))))
def cvBase10_E : Res := []
theorem cvBase10_C : Try.f75.body.bind (comp Try.prog cvBase10_M Try.f75.ntmps) = some cvBase10_S := by kernel_rfl
theorem cvBase10_R : resE Try.prog cvBase10_M Try.f75.results.toList = some cvBase10_E := by kernel_rfl
theorem cvBase10_H (G : Ctr) (hG : GOk Try.prog G) (a0 : Value) (a1 : Value) {h : H} {K : Value → H → Prop} {KP : List PanicEntry → H → Prop} (Hw : wpS G cvBase10_S (retQ cvBase10_E (callK K KP)) (envOf 0 [a0, a1] env0) h) : HCX Try.prog 75 [a0, a1] h K KP :=
  .inl ⟨by kernel_rfl, hc_of mixed hG Try.func75 cvBase10_C cvBase10_R (of_decide_eq_true (by kernel_rfl)) Hw⟩
def cvLog_M : Nat → Bool := fun i => Nat.testBit 5 i
def cvLog_S : S :=
  (.seq (.sts [(.set 2 (.c (.int .i64 0)))]) (.seq (.sts [(.chk [] (.c2 (.bin .mul) (.t 0) (.c (.int .i64 78913)))),
    (.chk [] (.c2 (.bits .shr) (.o2 (.bin .mul) (.t 0) (.c (.int .i64 78913))) (.c (.int .u64 18)))),
    (.set 2 (.o2 (.bits .shr) (.o2 (.bin .mul) (.t 0) (.c (.int .i64 78913))) (.c (.int .u64 18))))]) .ret))
def cvLog_E : Res := [(none, (.t 2))]
theorem cvLog_C : Try.f77.body.bind (comp Try.prog cvLog_M Try.f77.ntmps) = some cvLog_S := by kernel_rfl
theorem cvLog_R : resE Try.prog cvLog_M Try.f77.results.toList = some cvLog_E := by kernel_rfl
theorem cvLog_H (G : Ctr) (hG : GOk Try.prog G) (a0 : Value) {h : H} {K : Value → H → Prop} {KP : List PanicEntry → H → Prop} (Hw : wpS G cvLog_S (retQ cvLog_E (callK K KP)) (envOf 0 [a0] env0) h) : HCX Try.prog 77 [a0] h K KP :=
  .inl ⟨by kernel_rfl, hc_of mixed hG Try.func77 cvLog_C cvLog_R (of_decide_eq_true (by kernel_rfl)) Hw⟩
def cvBool_M : Nat → Bool := fun i => Nat.testBit 13 i
def cvBool_S : S :=
  (.seq (.sts [(.set 2 (.c (.int .i64 0)))]) (.seq (.seq (.sts [(.set 3 (.t 0))]) (.cond 3 (.seq (.sts [(.set 2 (.c (.int .i64 1)))]) .ret) .skip)) (.seq (.sts [(.set 2 (.c (.int .i64 0)))]) .ret)))
def cvBool_E : Res := [(none, (.t 2))]
theorem cvBool_C : Try.f79.body.bind (comp Try.prog cvBool_M Try.f79.ntmps) = some cvBool_S := by kernel_rfl
theorem cvBool_R : resE Try.prog cvBool_M Try.f79.results.toList = some cvBool_E := by kernel_rfl
theorem cvBool_H (G : Ctr) (hG : GOk Try.prog G) (a0 : Value) {h : H} {K : Value → H → Prop} {KP : List PanicEntry → H → Prop} (Hw : wpS G cvBool_S (retQ cvBool_E (callK K KP)) (envOf 0 [a0] env0) h) : HCX Try.prog 79 [a0] h K KP :=
  .inl ⟨by kernel_rfl, hc_of mixed hG Try.func79 cvBool_C cvBool_R (of_decide_eq_true (by kernel_rfl)) Hw⟩
end Go.Proofs.Ytdaldilmjhdpaaa
