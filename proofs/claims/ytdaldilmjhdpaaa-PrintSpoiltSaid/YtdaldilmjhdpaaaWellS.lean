/- The small statements of functions of the program, as the closed computation gives them (written by a program of ours; checked by the kernel below). -/
import Derived.Test.YtdaldilmjhdpaaaEvB
import Derived.Test.YtdaldilmjhdpaaaProg
import Derived.KernelRfl
namespace Go.Proofs.Ytdaldilmjhdpaaa
open Go Go.Ev
theorem mixed : Try.prog.follows .mixedOrders = true := by kernel_rfl
def symSmall_M : Nat → Bool := fun i => Nat.testBit 5 i
def symSmall_S : S :=
  (.seq (.sts [(.set 2 (.c (.bool false)))]) (.seq (.sts [(.chk [] (.c2 (.bin .leq) (.c (.int .u8 97)) (.t 0))),
    (.chk [((.o2 (.bin .leq) (.c (.int .u8 97)) (.t 0)), true)] (.c2 (.bin .leq) (.t 0) (.c (.int .u8 122)))),
    (.chk [] (.c3 .pick (.o2 (.bin .leq) (.c (.int .u8 97)) (.t 0)) (.o2 (.bin .leq) (.t 0) (.c (.int .u8 122))) (.c (.bool false)))),
    (.set 2 (.o3 .pick (.o2 (.bin .leq) (.c (.int .u8 97)) (.t 0)) (.o2 (.bin .leq) (.t 0) (.c (.int .u8 122))) (.c (.bool false))))]) .ret))
def symSmall_E : Res := [(none, (.t 2))]
theorem symSmall_C : Try.f43.body.bind (comp Try.prog symSmall_M Try.f43.ntmps) = some symSmall_S := by kernel_rfl
theorem symSmall_R : resE Try.prog symSmall_M Try.f43.results.toList = some symSmall_E := by kernel_rfl
theorem symSmall_H (G : Ctr) (hG : GOk Try.prog G) (a0 : Value) {h : H} {K : Value → H → Prop} {KP : List PanicEntry → H → Prop} (Hw : wpS G symSmall_S (retQ symSmall_E (callK K KP)) (envOf 0 [a0] env0) h) : HCX Try.prog 43 [a0] h K KP :=
  .inl ⟨by kernel_rfl, hc_of mixed hG Try.func43 symSmall_C symSmall_R (of_decide_eq_true (by kernel_rfl)) Hw⟩
def symBig_M : Nat → Bool := fun i => Nat.testBit 5 i
def symBig_S : S :=
  (.seq (.sts [(.set 2 (.c (.bool false)))]) (.seq (.sts [(.chk [] (.c2 (.bin .leq) (.c (.int .u8 65)) (.t 0))),
    (.chk [((.o2 (.bin .leq) (.c (.int .u8 65)) (.t 0)), true)] (.c2 (.bin .leq) (.t 0) (.c (.int .u8 90)))),
    (.chk [] (.c3 .pick (.o2 (.bin .leq) (.c (.int .u8 65)) (.t 0)) (.o2 (.bin .leq) (.t 0) (.c (.int .u8 90))) (.c (.bool false)))),
    (.chk [((.o3 .pick (.o2 (.bin .leq) (.c (.int .u8 65)) (.t 0)) (.o2 (.bin .leq) (.t 0) (.c (.int .u8 90))) (.c (.bool false))), false)] (.c2 (.bin .eql) (.t 0) (.c (.int .u8 95)))),
    (.chk [] (.c3 .pick (.o3 .pick (.o2 (.bin .leq) (.c (.int .u8 65)) (.t 0)) (.o2 (.bin .leq) (.t 0) (.c (.int .u8 90))) (.c (.bool false))) (.c (.bool true)) (.o2 (.bin .eql) (.t 0) (.c (.int .u8 95))))),
    (.set 2 (.o3 .pick (.o3 .pick (.o2 (.bin .leq) (.c (.int .u8 65)) (.t 0)) (.o2 (.bin .leq) (.t 0) (.c (.int .u8 90))) (.c (.bool false))) (.c (.bool true)) (.o2 (.bin .eql) (.t 0) (.c (.int .u8 95)))))]) .ret))
def symBig_E : Res := [(none, (.t 2))]
theorem symBig_C : Try.f47.body.bind (comp Try.prog symBig_M Try.f47.ntmps) = some symBig_S := by kernel_rfl
theorem symBig_R : resE Try.prog symBig_M Try.f47.results.toList = some symBig_E := by kernel_rfl
theorem symBig_H (G : Ctr) (hG : GOk Try.prog G) (a0 : Value) {h : H} {K : Value → H → Prop} {KP : List PanicEntry → H → Prop} (Hw : wpS G symBig_S (retQ symBig_E (callK K KP)) (envOf 0 [a0] env0) h) : HCX Try.prog 47 [a0] h K KP :=
  .inl ⟨by kernel_rfl, hc_of mixed hG Try.func47 symBig_C symBig_R (of_decide_eq_true (by kernel_rfl)) Hw⟩
def symWord_M : Nat → Bool := fun i => Nat.testBit 17592312922195 i
def symWord_L1 : S :=
  (.seq (.sts [(.chk [] (.c2 (.bin .lss) (.t 25) (.t 24))),
    (.set 26 (.o2 (.bin .lss) (.t 25) (.t 24)))]) (.seq (.cond 26 .skip (.exit 0)) (.seq (.block 1 (.seq (.sts [(.chk [] (.c2 (.idxA 1) (.t 23) (.t 25))),
    (.chk [] (.c1 .ld1 (.o2 (.idxA 1) (.t 23) (.t 25)))),
    (.set 6 (.o1 .ld1 (.o2 (.idxA 1) (.t 23) (.t 25))))]) (.seq (.sts [(.eff [] (some 30) (.call 43) [(.t 6)] []),
    (.chk [] (.c1 .not (.t 30))),
    (.eff [((.o1 .not (.t 30)), true)] (some 34) (.call 47) [(.t 6)] []),
    (.chk [((.o1 .not (.t 30)), true)] (.c1 .not (.t 34))),
    (.chk [] (.c3 .pick (.o1 .not (.t 30)) (.o1 .not (.t 34)) (.c (.bool false)))),
    (.chk [((.o3 .pick (.o1 .not (.t 30)) (.o1 .not (.t 34)) (.c (.bool false))), true)] (.c2 (.bin .lss) (.t 6) (.c (.int .u8 48)))),
    (.chk [((.o2 (.bin .lss) (.t 6) (.c (.int .u8 48))), false), ((.o3 .pick (.o1 .not (.t 30)) (.o1 .not (.t 34)) (.c (.bool false))), true)] (.c2 (.bin .gtr) (.t 6) (.c (.int .u8 57)))),
    (.chk [((.o3 .pick (.o1 .not (.t 30)) (.o1 .not (.t 34)) (.c (.bool false))), true)] (.c3 .pick (.o2 (.bin .lss) (.t 6) (.c (.int .u8 48))) (.c (.bool true)) (.o2 (.bin .gtr) (.t 6) (.c (.int .u8 57))))),
    (.chk [] (.c3 .pick (.o3 .pick (.o1 .not (.t 30)) (.o1 .not (.t 34)) (.c (.bool false))) (.o3 .pick (.o2 (.bin .lss) (.t 6) (.c (.int .u8 48))) (.c (.bool true)) (.o2 (.bin .gtr) (.t 6) (.c (.int .u8 57)))) (.c (.bool false)))),
    (.set 44 (.o3 .pick (.o3 .pick (.o1 .not (.t 30)) (.o1 .not (.t 34)) (.c (.bool false))) (.o3 .pick (.o2 (.bin .lss) (.t 6) (.c (.int .u8 48))) (.c (.bool true)) (.o2 (.bin .gtr) (.t 6) (.c (.int .u8 57)))) (.c (.bool false))))]) (.cond 44 (.seq (.sts [(.set 4 (.c (.bool false)))]) .ret) .skip)))) (.sts [(.chk [] (.c2 (.bin .add) (.t 25) (.c (.int .i64 1)))),
    (.set 45 (.o2 (.bin .add) (.t 25) (.c (.int .i64 1)))),
    (.set 25 (.t 45))]))))
def symWord_S : S :=
  (.seq (.sts [(.set 4 (.c (.bool false)))]) (.seq (.seq (.sts [(.chk [] (.c2 (.bin .eql) (.t 0) (.c (str [])))),
    (.chk [((.o2 (.bin .eql) (.t 0) (.c (str []))), false)] (.c1 .lens (.t 0))),
    (.chk [((.o2 (.bin .eql) (.t 0) (.c (str []))), false)] (.c2 (.bin .gtr) (.o1 .lens (.t 0)) (.c (.int .i64 64)))),
    (.chk [] (.c3 .pick (.o2 (.bin .eql) (.t 0) (.c (str []))) (.c (.bool true)) (.o2 (.bin .gtr) (.o1 .lens (.t 0)) (.c (.int .i64 64))))),
    (.chk [((.o3 .pick (.o2 (.bin .eql) (.t 0) (.c (str []))) (.c (.bool true)) (.o2 (.bin .gtr) (.o1 .lens (.t 0)) (.c (.int .i64 64)))), false)] (.c2 .idxS (.t 0) (.c (.int .i64 0)))),
    (.eff [((.o3 .pick (.o2 (.bin .eql) (.t 0) (.c (str []))) (.c (.bool true)) (.o2 (.bin .gtr) (.o1 .lens (.t 0)) (.c (.int .i64 64)))), false)] (some 18) .callv [(.t 1), (.o2 .idxS (.t 0) (.c (.int .i64 0)))] []),
    (.chk [((.o3 .pick (.o2 (.bin .eql) (.t 0) (.c (str []))) (.c (.bool true)) (.o2 (.bin .gtr) (.o1 .lens (.t 0)) (.c (.int .i64 64)))), false)] (.c1 .not (.t 18))),
    (.chk [] (.c3 .pick (.o3 .pick (.o2 (.bin .eql) (.t 0) (.c (str []))) (.c (.bool true)) (.o2 (.bin .gtr) (.o1 .lens (.t 0)) (.c (.int .i64 64)))) (.c (.bool true)) (.o1 .not (.t 18)))),
    (.set 20 (.o3 .pick (.o3 .pick (.o2 (.bin .eql) (.t 0) (.c (str []))) (.c (.bool true)) (.o2 (.bin .gtr) (.o1 .lens (.t 0)) (.c (.int .i64 64)))) (.c (.bool true)) (.o1 .not (.t 18))))]) (.cond 20 (.seq (.sts [(.set 4 (.c (.bool false)))]) .ret) .skip)) (.seq (.seq (.sts [(.chk [] (.c2 .subLo (.t 0) (.c (.int .i64 1)))),
    (.eff [] (some 23) (.s2b 5) [(.o2 .subLo (.t 0) (.c (.int .i64 1)))] []),
    (.chk [] (.c1 .len (.t 23))),
    (.set 24 (.o1 .len (.t 23))),
    (.set 25 (.c (.int .i64 0)))]) (.block 0 (.loop symWord_L1))) (.seq (.sts [(.set 4 (.c (.bool true)))]) .ret))))
def symWord_E : Res := [(none, (.t 4))]
theorem symWord_C : Try.f42.body.bind (comp Try.prog symWord_M Try.f42.ntmps) = some symWord_S := by kernel_rfl
theorem symWord_R : resE Try.prog symWord_M Try.f42.results.toList = some symWord_E := by kernel_rfl
theorem symWord_H (G : Ctr) (hG : GOk Try.prog G) (a0 : Value) (a1 : Value) {h : H} {K : Value → H → Prop} {KP : List PanicEntry → H → Prop} (Hw : wpS G symWord_S (retQ symWord_E (callK K KP)) (envOf 0 [a0, a1] env0) h) : HCX Try.prog 42 [a0, a1] h K KP :=
  .inl ⟨by kernel_rfl, hc_of mixed hG Try.func42 symWord_C symWord_R (of_decide_eq_true (by kernel_rfl)) Hw⟩
def symIsName_M : Nat → Bool := fun i => Nat.testBit 5 i
def symIsName_S : S :=
  (.seq (.sts [(.set 2 (.c (.bool false)))]) (.seq (.sts [(.chk [] (.c2 (.bin .neq) (.t 0) (.c (str [110, 111, 116])))),
    (.eff [((.o2 (.bin .neq) (.t 0) (.c (str [110, 111, 116]))), true)] (some 7) (.call 42) [(.t 0), (.c (.func (.func 43) #[] #[]))] []),
    (.chk [] (.c3 .pick (.o2 (.bin .neq) (.t 0) (.c (str [110, 111, 116]))) (.t 7) (.c (.bool false)))),
    (.set 2 (.o3 .pick (.o2 (.bin .neq) (.t 0) (.c (str [110, 111, 116]))) (.t 7) (.c (.bool false))))]) .ret))
def symIsName_E : Res := [(none, (.t 2))]
theorem symIsName_C : Try.f32.body.bind (comp Try.prog symIsName_M Try.f32.ntmps) = some symIsName_S := by kernel_rfl
theorem symIsName_R : resE Try.prog symIsName_M Try.f32.results.toList = some symIsName_E := by kernel_rfl
theorem symIsName_H (G : Ctr) (hG : GOk Try.prog G) (a0 : Value) {h : H} {K : Value → H → Prop} {KP : List PanicEntry → H → Prop} (Hw : wpS G symIsName_S (retQ symIsName_E (callK K KP)) (envOf 0 [a0] env0) h) : HCX Try.prog 32 [a0] h K KP :=
  .inl ⟨by kernel_rfl, hc_of mixed hG Try.func32 symIsName_C symIsName_R (of_decide_eq_true (by kernel_rfl)) Hw⟩
def symIsVar_M : Nat → Bool := fun i => Nat.testBit 5 i
def symIsVar_S : S :=
  (.seq (.sts [(.set 2 (.c (.bool false)))]) (.seq (.sts [(.eff [] (some 4) (.call 42) [(.t 0), (.c (.func (.func 47) #[] #[]))] []),
    (.set 2 (.t 4))]) .ret))
def symIsVar_E : Res := [(none, (.t 2))]
theorem symIsVar_C : Try.f44.body.bind (comp Try.prog symIsVar_M Try.f44.ntmps) = some symIsVar_S := by kernel_rfl
theorem symIsVar_R : resE Try.prog symIsVar_M Try.f44.results.toList = some symIsVar_E := by kernel_rfl
theorem symIsVar_H (G : Ctr) (hG : GOk Try.prog G) (a0 : Value) {h : H} {K : Value → H → Prop} {KP : List PanicEntry → H → Prop} (Hw : wpS G symIsVar_S (retQ symIsVar_E (callK K KP)) (envOf 0 [a0] env0) h) : HCX Try.prog 44 [a0] h K KP :=
  .inl ⟨by kernel_rfl, hc_of mixed hG Try.func44 symIsVar_C symIsVar_R (of_decide_eq_true (by kernel_rfl)) Hw⟩
def symValid_M : Nat → Bool := fun i => Nat.testBit 1049655 i
def symValid_S : S :=
  (.seq (.sts [(.eff [] (some 1) (.box 63) [(.t 0)] []),
    (.set 2 (.c (.bool false)))]) (.seq (.seq (.sts [(.chk [] (.c1 (.fld 0) (.t 1))),
    (.chk [] (.c1 .ld1 (.o1 (.fld 0) (.t 1)))),
    (.set 4 (.o1 .ld1 (.o1 (.fld 0) (.t 1))))]) (.block 0 (.seq (.sts [(.chk [] (.c2 (.bin .eql) (.t 4) (.c (.int .i64 1)))),
    (.set 5 (.o2 (.bin .eql) (.t 4) (.c (.int .i64 1))))]) (.cond 5 (.seq (.sts [(.chk [] (.c1 (.fld 2) (.t 1))),
    (.chk [] (.c1 .ld1 (.o1 (.fld 2) (.t 1)))),
    (.chk [] (.c2 (.bin .eql) (.o1 .ld1 (.o1 (.fld 2) (.t 1))) (.c (str [])))),
    (.set 2 (.o2 (.bin .eql) (.o1 .ld1 (.o1 (.fld 2) (.t 1))) (.c (str []))))]) .ret) (.seq (.sts [(.chk [] (.c2 (.bin .eql) (.t 4) (.c (.int .i64 2)))),
    (.set 10 (.o2 (.bin .eql) (.t 4) (.c (.int .i64 2))))]) (.cond 10 (.seq (.sts [(.chk [] (.c1 (.fld 1) (.t 1))),
    (.chk [] (.c1 .ld1 (.o1 (.fld 1) (.t 1)))),
    (.chk [] (.c2 (.bin .eql) (.o1 .ld1 (.o1 (.fld 1) (.t 1))) (.c (.int .i64 0)))),
    (.chk [((.o2 (.bin .eql) (.o1 .ld1 (.o1 (.fld 1) (.t 1))) (.c (.int .i64 0))), true)] (.c1 (.fld 2) (.t 1))),
    (.chk [((.o2 (.bin .eql) (.o1 .ld1 (.o1 (.fld 1) (.t 1))) (.c (.int .i64 0))), true)] (.c1 .ld1 (.o1 (.fld 2) (.t 1)))),
    (.set 17 (.o1 .ld1 (.o1 (.fld 2) (.t 1)))),
    (.set 15 (.o2 (.bin .eql) (.o1 .ld1 (.o1 (.fld 1) (.t 1))) (.c (.int .i64 0)))),
    (.eff [((.t 15), true)] (some 18) (.call 32) [(.t 17)] []),
    (.chk [] (.c3 .pick (.t 15) (.t 18) (.c (.bool false)))),
    (.set 2 (.o3 .pick (.t 15) (.t 18) (.c (.bool false))))]) .ret) (.seq (.sts [(.chk [] (.c2 (.bin .eql) (.t 4) (.c (.int .i64 3)))),
    (.set 20 (.o2 (.bin .eql) (.t 4) (.c (.int .i64 3))))]) (.cond 20 (.seq (.sts [(.chk [] (.c1 (.fld 1) (.t 1))),
    (.chk [] (.c1 .ld1 (.o1 (.fld 1) (.t 1)))),
    (.chk [] (.c2 (.bin .eql) (.o1 .ld1 (.o1 (.fld 1) (.t 1))) (.c (.int .i64 0)))),
    (.chk [((.o2 (.bin .eql) (.o1 .ld1 (.o1 (.fld 1) (.t 1))) (.c (.int .i64 0))), true)] (.c1 (.fld 2) (.t 1))),
    (.chk [((.o2 (.bin .eql) (.o1 .ld1 (.o1 (.fld 1) (.t 1))) (.c (.int .i64 0))), true)] (.c1 .ld1 (.o1 (.fld 2) (.t 1)))),
    (.chk [((.o2 (.bin .eql) (.o1 .ld1 (.o1 (.fld 1) (.t 1))) (.c (.int .i64 0))), true)] (.c1 .lens (.o1 .ld1 (.o1 (.fld 2) (.t 1))))),
    (.chk [((.o2 (.bin .eql) (.o1 .ld1 (.o1 (.fld 1) (.t 1))) (.c (.int .i64 0))), true)] (.c2 (.bin .leq) (.o1 .lens (.o1 .ld1 (.o1 (.fld 2) (.t 1)))) (.c (.int .i64 255)))),
    (.chk [] (.c3 .pick (.o2 (.bin .eql) (.o1 .ld1 (.o1 (.fld 1) (.t 1))) (.c (.int .i64 0))) (.o2 (.bin .leq) (.o1 .lens (.o1 .ld1 (.o1 (.fld 2) (.t 1)))) (.c (.int .i64 255))) (.c (.bool false)))),
    (.set 2 (.o3 .pick (.o2 (.bin .eql) (.o1 .ld1 (.o1 (.fld 1) (.t 1))) (.c (.int .i64 0))) (.o2 (.bin .leq) (.o1 .lens (.o1 .ld1 (.o1 (.fld 2) (.t 1)))) (.c (.int .i64 255))) (.c (.bool false))))]) .ret) .skip)))))))) (.seq (.sts [(.set 2 (.c (.bool false)))]) .ret)))
def symValid_E : Res := [(none, (.t 2))]
theorem symValid_C : Try.f48.body.bind (comp Try.prog symValid_M Try.f48.ntmps) = some symValid_S := by kernel_rfl
theorem symValid_R : resE Try.prog symValid_M Try.f48.results.toList = some symValid_E := by kernel_rfl
theorem symValid_H (G : Ctr) (hG : GOk Try.prog G) (a0 : Value) {h : H} {K : Value → H → Prop} {KP : List PanicEntry → H → Prop} (Hw : wpS G symValid_S (retQ symValid_E (callK K KP)) (envOf 0 [a0] env0) h) : HCX Try.prog 48 [a0] h K KP :=
  .inl ⟨by kernel_rfl, hc_of mixed hG Try.func48 symValid_C symValid_R (of_decide_eq_true (by kernel_rfl)) Hw⟩
def prConstant_M : Nat → Bool := fun i => Nat.testBit 7 i
def prConstant_S : S :=
  (.seq (.sts [(.eff [] (some 1) (.box 43) [(.t 0)] []),
    (.eff [] (some 2) (.alloc 63 #[(.int .i64 0), (.int .i64 0), (str [])]) [] [])]) (.seq (.sts [(.chk [] (.c1 (.fld 0) (.t 1))),
    (.chk [] (.c1 .ld1 (.o1 (.fld 0) (.t 1)))),
    (.chk [] (.c1 (.fld 1) (.t 1))),
    (.chk [] (.c1 .ld1 (.o1 (.fld 1) (.t 1)))),
    (.chk [] (.c1 (.fld 2) (.t 1))),
    (.chk [] (.c1 .ld1 (.o1 (.fld 2) (.t 1)))),
    (.chk [] (.cb 3 [(0, (1, (.o1 .ld1 (.o1 (.fld 0) (.t 1))))), (1, (1, (.o1 .ld1 (.o1 (.fld 1) (.t 1))))), (2, (1, (.o1 .ld1 (.o1 (.fld 2) (.t 1)))))])),
    (.set 9 (.o2 (.put 2 1) (.o2 (.put 1 1) (.o2 (.put 0 1) (.c (.agg #[(.int .i64 0), (.int .i64 0), (str [])])) (.o1 .ld1 (.o1 (.fld 0) (.t 1)))) (.o1 .ld1 (.o1 (.fld 1) (.t 1)))) (.o1 .ld1 (.o1 (.fld 2) (.t 1))))),
    (.eff [] none (.store 3) [(.t 2), (.t 9)] [])]) .ret))
def prConstant_E : Res := [((some (.c1 (.ldn 3) (.t 2))), (.o1 (.ldn 3) (.t 2)))]
theorem prConstant_C : Try.f46.body.bind (comp Try.prog prConstant_M Try.f46.ntmps) = some prConstant_S := by kernel_rfl
theorem prConstant_R : resE Try.prog prConstant_M Try.f46.results.toList = some prConstant_E := by kernel_rfl
theorem prConstant_H (G : Ctr) (hG : GOk Try.prog G) (a0 : Value) {h : H} {K : Value → H → Prop} {KP : List PanicEntry → H → Prop} (Hw : wpS G prConstant_S (retQ prConstant_E (callK K KP)) (envOf 0 [a0] env0) h) : HCX Try.prog 46 [a0] h K KP :=
  .inl ⟨by kernel_rfl, hc_of mixed hG Try.func46 prConstant_C prConstant_R (of_decide_eq_true (by kernel_rfl)) Hw⟩
def prWellConst_M : Nat → Bool := fun i => Nat.testBit 39 i
def prWellConst_S : S :=
  (.seq (.sts [(.eff [] (some 1) (.box 63) [(.t 0)] []),
    (.set 2 (.c (.int .i64 0)))]) (.seq (.seq (.sts [(.chk [] (.c1 (.ldn 3) (.t 1))),
    (.set 3 (.o1 (.ldn 3) (.t 1))),
    (.eff [] (some 4) (.call 48) [(.t 3)] []),
    (.chk [] (.c1 .not (.t 4))),
    (.set 5 (.o1 .not (.t 4)))]) (.cond 5 (.seq (.sts [(.set 2 (.c (.int .i64 5)))]) .ret) .skip)) (.seq (.sts [(.set 2 (.c (.int .i64 0)))]) .ret)))
def prWellConst_E : Res := [(none, (.t 2))]
theorem prWellConst_C : Try.f45.body.bind (comp Try.prog prWellConst_M Try.f45.ntmps) = some prWellConst_S := by kernel_rfl
theorem prWellConst_R : resE Try.prog prWellConst_M Try.f45.results.toList = some prWellConst_E := by kernel_rfl
theorem prWellConst_H (G : Ctr) (hG : GOk Try.prog G) (a0 : Value) {h : H} {K : Value → H → Prop} {KP : List PanicEntry → H → Prop} (Hw : wpS G prWellConst_S (retQ prWellConst_E (callK K KP)) (envOf 0 [a0] env0) h) : HCX Try.prog 45 [a0] h K KP :=
  .inl ⟨by kernel_rfl, hc_of mixed hG Try.func45 prWellConst_C prWellConst_R (of_decide_eq_true (by kernel_rfl)) Hw⟩
def prWellTerm_M : Nat → Bool := fun i => Nat.testBit 16423 i
def prWellTerm_S : S :=
  (.seq (.sts [(.eff [] (some 1) (.box 43) [(.t 0)] []),
    (.set 2 (.c (.int .i64 0)))]) (.seq (.seq (.sts [(.chk [] (.c1 (.fld 0) (.t 1))),
    (.chk [] (.c1 .ld1 (.o1 (.fld 0) (.t 1)))),
    (.chk [] (.c2 (.bin .eql) (.o1 .ld1 (.o1 (.fld 0) (.t 1))) (.c (.int .i64 4)))),
    (.set 5 (.o2 (.bin .eql) (.o1 .ld1 (.o1 (.fld 0) (.t 1))) (.c (.int .i64 4))))]) (.cond 5 (.seq (.seq (.sts [(.chk [] (.c1 (.fld 1) (.t 1))),
    (.chk [] (.c1 .ld1 (.o1 (.fld 1) (.t 1)))),
    (.chk [] (.c2 (.bin .neq) (.o1 .ld1 (.o1 (.fld 1) (.t 1))) (.c (.int .i64 0)))),
    (.chk [((.o2 (.bin .neq) (.o1 .ld1 (.o1 (.fld 1) (.t 1))) (.c (.int .i64 0))), false)] (.c1 (.fld 2) (.t 1))),
    (.chk [((.o2 (.bin .neq) (.o1 .ld1 (.o1 (.fld 1) (.t 1))) (.c (.int .i64 0))), false)] (.c1 .ld1 (.o1 (.fld 2) (.t 1)))),
    (.set 11 (.o1 .ld1 (.o1 (.fld 2) (.t 1)))),
    (.set 9 (.o2 (.bin .neq) (.o1 .ld1 (.o1 (.fld 1) (.t 1))) (.c (.int .i64 0)))),
    (.eff [((.t 9), false)] (some 12) (.call 44) [(.t 11)] []),
    (.chk [((.t 9), false)] (.c1 .not (.t 12))),
    (.chk [] (.c3 .pick (.t 9) (.c (.bool true)) (.o1 .not (.t 12)))),
    (.set 14 (.o3 .pick (.t 9) (.c (.bool true)) (.o1 .not (.t 12))))]) (.cond 14 (.seq (.sts [(.set 2 (.c (.int .i64 14)))]) .ret) .skip)) (.seq (.sts [(.set 2 (.c (.int .i64 0)))]) .ret)) .skip)) (.seq (.sts [(.chk [] (.c1 (.ldn 4) (.t 1))),
    (.set 15 (.o1 (.ldn 4) (.t 1))),
    (.eff [] (some 16) (.call 46) [(.t 15)] []),
    (.eff [] (some 17) (.call 45) [(.t 16)] []),
    (.set 2 (.t 17))]) .ret)))
def prWellTerm_E : Res := [(none, (.t 2))]
theorem prWellTerm_C : Try.f34.body.bind (comp Try.prog prWellTerm_M Try.f34.ntmps) = some prWellTerm_S := by kernel_rfl
theorem prWellTerm_R : resE Try.prog prWellTerm_M Try.f34.results.toList = some prWellTerm_E := by kernel_rfl
theorem prWellTerm_H (G : Ctr) (hG : GOk Try.prog G) (a0 : Value) {h : H} {K : Value → H → Prop} {KP : List PanicEntry → H → Prop} (Hw : wpS G prWellTerm_S (retQ prWellTerm_E (callK K KP)) (envOf 0 [a0] env0) h) : HCX Try.prog 34 [a0] h K KP :=
  .inl ⟨by kernel_rfl, hc_of mixed hG Try.func34 prWellTerm_C prWellTerm_R (of_decide_eq_true (by kernel_rfl)) Hw⟩
def prBare_M : Nat → Bool := fun i => Nat.testBit 7 i
def prBare_S : S :=
  (.seq (.sts [(.eff [] (some 1) (.box 43) [(.t 0)] []),
    (.set 2 (.c (.bool false)))]) (.seq (.sts [(.chk [] (.c1 (.fld 3) (.t 1))),
    (.eff [] none (.store 1) [(.o1 (.fld 3) (.t 1)), (.c (.int .i64 0))] [])]) (.seq (.sts [(.chk [] (.c1 (.ldn 4) (.t 1))),
    (.chk [] (.cb 4 [])),
    (.chk [] (.c2 (.eqs false [(.int .i64), (.int .i64), .str, (.int .i64)]) (.o1 (.ldn 4) (.t 1)) (.c (.agg #[(.int .i64 0), (.int .i64 0), (str []), (.int .i64 0)])))),
    (.set 2 (.o2 (.eqs false [(.int .i64), (.int .i64), .str, (.int .i64)]) (.o1 (.ldn 4) (.t 1)) (.c (.agg #[(.int .i64 0), (.int .i64 0), (str []), (.int .i64 0)]))))]) .ret)))
def prBare_E : Res := [(none, (.t 2))]
theorem prBare_C : Try.f35.body.bind (comp Try.prog prBare_M Try.f35.ntmps) = some prBare_S := by kernel_rfl
theorem prBare_R : resE Try.prog prBare_M Try.f35.results.toList = some prBare_E := by kernel_rfl
theorem prBare_H (G : Ctr) (hG : GOk Try.prog G) (a0 : Value) {h : H} {K : Value → H → Prop} {KP : List PanicEntry → H → Prop} (Hw : wpS G prBare_S (retQ prBare_E (callK K KP)) (envOf 0 [a0] env0) h) : HCX Try.prog 35 [a0] h K KP :=
  .inl ⟨by kernel_rfl, hc_of mixed hG Try.func35 prBare_C prBare_R (of_decide_eq_true (by kernel_rfl)) Hw⟩
def prFirstT_M : Nat → Bool := fun i => Nat.testBit 266195 i
def prFirstT_L1 : S :=
  (.seq (.sts [(.chk [] (.c2 (.bin .lss) (.t 10) (.t 9))),
    (.set 11 (.o2 (.bin .lss) (.t 10) (.t 9)))]) (.seq (.cond 11 .skip (.exit 0)) (.seq (.block 1 (.seq (.sts [(.chk [] (.c2 (.idxA 4) (.t 8) (.t 10))),
    (.chk [] (.c1 (.ldn 4) (.o2 (.idxA 4) (.t 8) (.t 10)))),
    (.set 13 (.o1 (.ldn 4) (.o2 (.idxA 4) (.t 8) (.t 10)))),
    (.eff [] (some 6) (.alloc 43 #[(.int .i64 0), (.int .i64 0), (str []), (.int .i64 0)]) [] []),
    (.eff [] none (.store 4) [(.t 6), (.t 13)] [])]) (.seq (.sts [(.chk [] (.c1 (.ldn 4) (.t 6))),
    (.set 15 (.o1 (.ldn 4) (.t 6))),
    (.eff [] (some 16) .callv [(.t 1), (.t 15)] []),
    (.set 7 (.t 16))]) (.seq (.sts [(.chk [] (.c2 (.bin .neq) (.t 7) (.c (.int .i64 0)))),
    (.set 18 (.o2 (.bin .neq) (.t 7) (.c (.int .i64 0))))]) (.cond 18 (.seq (.sts [(.set 4 (.t 7))]) .ret) .skip))))) (.sts [(.chk [] (.c2 (.bin .add) (.t 10) (.c (.int .i64 1)))),
    (.set 20 (.o2 (.bin .add) (.t 10) (.c (.int .i64 1)))),
    (.set 10 (.t 20))]))))
def prFirstT_S : S :=
  (.seq (.sts [(.set 4 (.c (.int .i64 0)))]) (.seq (.seq (.sts [(.set 8 (.t 0)),
    (.chk [] (.c1 .len (.t 8))),
    (.set 9 (.o1 .len (.t 8))),
    (.set 10 (.c (.int .i64 0)))]) (.block 0 (.loop prFirstT_L1))) (.seq (.sts [(.set 4 (.c (.int .i64 0)))]) .ret)))
def prFirstT_E : Res := [(none, (.t 4))]
theorem prFirstT_C : Try.f33.body.bind (comp Try.prog prFirstT_M Try.f33.ntmps) = some prFirstT_S := by kernel_rfl
theorem prFirstT_R : resE Try.prog prFirstT_M Try.f33.results.toList = some prFirstT_E := by kernel_rfl
theorem prFirstT_H (G : Ctr) (hG : GOk Try.prog G) (a0 : Value) (a1 : Value) {h : H} {K : Value → H → Prop} {KP : List PanicEntry → H → Prop} (Hw : wpS G prFirstT_S (retQ prFirstT_E (callK K KP)) (envOf 0 [a0, a1] env0) h) : HCX Try.prog 33 [a0, a1] h K KP :=
  .inl ⟨by kernel_rfl, hc_of mixed hG Try.func33 prFirstT_C prFirstT_R (of_decide_eq_true (by kernel_rfl)) Hw⟩
def prWellAtom_M : Nat → Bool := fun i => Nat.testBit 271 i
def prWellAtom_S : S :=
  (.seq (.sts [(.eff [] (some 1) (.box 27) [(.t 0)] []),
    (.set 2 (.c (.int .i64 0)))]) (.seq (.block 0 (.seq (.sts [(.chk [] (.c1 (.fld 0) (.t 1))),
    (.chk [] (.c1 .ld1 (.o1 (.fld 0) (.t 1)))),
    (.set 5 (.o1 .ld1 (.o1 (.fld 0) (.t 1)))),
    (.eff [] (some 6) (.call 32) [(.t 5)] []),
    (.chk [] (.c1 .not (.t 6))),
    (.set 3 (.o1 .not (.t 6)))]) (.cond 3 (.seq (.sts [(.set 2 (.c (.int .i64 14)))]) .ret) (.seq (.sts [(.chk [] (.c1 (.fld 1) (.t 1))),
    (.chk [] (.c1 .ld1 (.o1 (.fld 1) (.t 1)))),
    (.chk [] (.c1 .len (.o1 .ld1 (.o1 (.fld 1) (.t 1))))),
    (.chk [] (.c2 (.bin .gtr) (.o1 .len (.o1 .ld1 (.o1 (.fld 1) (.t 1)))) (.c (.int .i64 8)))),
    (.set 8 (.o2 (.bin .gtr) (.o1 .len (.o1 .ld1 (.o1 (.fld 1) (.t 1)))) (.c (.int .i64 8))))]) (.cond 8 (.seq (.sts [(.set 2 (.c (.int .i64 22)))]) .ret) .skip))))) (.seq (.sts [(.chk [] (.c1 (.fld 1) (.t 1))),
    (.chk [] (.c1 .ld1 (.o1 (.fld 1) (.t 1)))),
    (.set 14 (.o1 .ld1 (.o1 (.fld 1) (.t 1)))),
    (.eff [] (some 15) (.call 33) [(.t 14), (.c (.func (.func 34) #[] #[]))] []),
    (.set 2 (.t 15))]) .ret)))
def prWellAtom_E : Res := [(none, (.t 2))]
theorem prWellAtom_C : Try.f23.body.bind (comp Try.prog prWellAtom_M Try.f23.ntmps) = some prWellAtom_S := by kernel_rfl
theorem prWellAtom_R : resE Try.prog prWellAtom_M Try.f23.results.toList = some prWellAtom_E := by kernel_rfl
theorem prWellAtom_H (G : Ctr) (hG : GOk Try.prog G) (a0 : Value) {h : H} {K : Value → H → Prop} {KP : List PanicEntry → H → Prop} (Hw : wpS G prWellAtom_S (retQ prWellAtom_E (callK K KP)) (envOf 0 [a0] env0) h) : HCX Try.prog 23 [a0] h K KP :=
  .inl ⟨by kernel_rfl, hc_of mixed hG Try.func23 prWellAtom_C prWellAtom_R (of_decide_eq_true (by kernel_rfl)) Hw⟩
def prWellLiteral_M : Nat → Bool := fun i => Nat.testBit 281475048013879 i
def prWellLiteral_S : S :=
  (.seq (.sts [(.eff [] (some 1) (.box 49) [(.t 0)] []),
    (.set 2 (.c (.int .i64 0)))]) (.seq (.seq (.sts [(.chk [] (.c1 (.fld 0) (.t 1))),
    (.chk [] (.c1 .ld1 (.o1 (.fld 0) (.t 1)))),
    (.set 4 (.o1 .ld1 (.o1 (.fld 0) (.t 1))))]) (.block 0 (.seq (.seq (.sts [(.chk [] (.c2 (.bin .eql) (.t 4) (.c (.int .i64 1)))),
    (.set 5 (.o2 (.bin .eql) (.t 4) (.c (.int .i64 1))))]) (.cond 5 .skip (.sts [(.chk [] (.c2 (.bin .eql) (.t 4) (.c (.int .i64 2)))),
    (.set 5 (.o2 (.bin .eql) (.t 4) (.c (.int .i64 2))))]))) (.cond 5 (.seq (.seq (.sts [(.chk [] (.c1 (.fld 4) (.t 1))),
    (.chk [] (.c1 .ld1 (.o1 (.fld 4) (.t 1)))),
    (.chk [] (.c2 (.bin .neq) (.o1 .ld1 (.o1 (.fld 4) (.t 1))) (.c (.int .i64 0)))),
    (.chk [((.o2 (.bin .neq) (.o1 .ld1 (.o1 (.fld 4) (.t 1))) (.c (.int .i64 0))), false)] (.c1 (.fld 5) (.t 1))),
    (.chk [((.o2 (.bin .neq) (.o1 .ld1 (.o1 (.fld 4) (.t 1))) (.c (.int .i64 0))), false)] (.c1 (.ldn 4) (.o1 (.fld 5) (.t 1)))),
    (.set 13 (.o1 (.ldn 4) (.o1 (.fld 5) (.t 1)))),
    (.set 11 (.o2 (.bin .neq) (.o1 .ld1 (.o1 (.fld 4) (.t 1))) (.c (.int .i64 0)))),
    (.eff [((.t 11), false)] (some 14) (.call 35) [(.t 13)] []),
    (.chk [((.t 11), false)] (.c1 .not (.t 14))),
    (.chk [] (.c3 .pick (.t 11) (.c (.bool true)) (.o1 .not (.t 14)))),
    (.chk [((.o3 .pick (.t 11) (.c (.bool true)) (.o1 .not (.t 14))), false)] (.c1 (.fld 9) (.t 1))),
    (.chk [((.o3 .pick (.t 11) (.c (.bool true)) (.o1 .not (.t 14))), false)] (.c1 (.ldn 4) (.o1 (.fld 9) (.t 1)))),
    (.set 19 (.o1 (.ldn 4) (.o1 (.fld 9) (.t 1)))),
    (.eff [((.o3 .pick (.t 11) (.c (.bool true)) (.o1 .not (.t 14))), false)] (some 20) (.call 35) [(.t 19)] []),
    (.chk [((.o3 .pick (.t 11) (.c (.bool true)) (.o1 .not (.t 14))), false)] (.c1 .not (.t 20))),
    (.chk [] (.c3 .pick (.o3 .pick (.t 11) (.c (.bool true)) (.o1 .not (.t 14))) (.c (.bool true)) (.o1 .not (.t 20)))),
    (.set 22 (.o3 .pick (.o3 .pick (.t 11) (.c (.bool true)) (.o1 .not (.t 14))) (.c (.bool true)) (.o1 .not (.t 20))))]) (.cond 22 (.seq (.sts [(.set 2 (.c (.int .i64 2)))]) .ret) .skip)) (.seq (.sts [(.chk [] (.c1 (.fld 1) (.t 1))),
    (.chk [] (.c1 (.ldn 3) (.o1 (.fld 1) (.t 1)))),
    (.set 24 (.o1 (.ldn 3) (.o1 (.fld 1) (.t 1)))),
    (.eff [] (some 25) (.call 23) [(.t 24)] []),
    (.set 2 (.t 25))]) .ret)) (.seq (.sts [(.chk [] (.c2 (.bin .eql) (.t 4) (.c (.int .i64 3)))),
    (.set 26 (.o2 (.bin .eql) (.t 4) (.c (.int .i64 3))))]) (.cond 26 (.seq (.seq (.sts [(.chk [] (.c1 (.fld 4) (.t 1))),
    (.chk [] (.c1 .ld1 (.o1 (.fld 4) (.t 1)))),
    (.chk [] (.c2 (.bin .lss) (.o1 .ld1 (.o1 (.fld 4) (.t 1))) (.c (.int .i64 1)))),
    (.chk [((.o2 (.bin .lss) (.o1 .ld1 (.o1 (.fld 4) (.t 1))) (.c (.int .i64 1))), false)] (.c1 (.fld 4) (.t 1))),
    (.chk [((.o2 (.bin .lss) (.o1 .ld1 (.o1 (.fld 4) (.t 1))) (.c (.int .i64 1))), false)] (.c1 .ld1 (.o1 (.fld 4) (.t 1)))),
    (.chk [((.o2 (.bin .lss) (.o1 .ld1 (.o1 (.fld 4) (.t 1))) (.c (.int .i64 1))), false)] (.c2 (.bin .gtr) (.o1 .ld1 (.o1 (.fld 4) (.t 1))) (.c (.int .i64 6)))),
    (.chk [] (.c3 .pick (.o2 (.bin .lss) (.o1 .ld1 (.o1 (.fld 4) (.t 1))) (.c (.int .i64 1))) (.c (.bool true)) (.o2 (.bin .gtr) (.o1 .ld1 (.o1 (.fld 4) (.t 1))) (.c (.int .i64 6))))),
    (.chk [((.o3 .pick (.o2 (.bin .lss) (.o1 .ld1 (.o1 (.fld 4) (.t 1))) (.c (.int .i64 1))) (.c (.bool true)) (.o2 (.bin .gtr) (.o1 .ld1 (.o1 (.fld 4) (.t 1))) (.c (.int .i64 6)))), false)] (.c1 (.fld 1) (.t 1))),
    (.chk [((.o3 .pick (.o2 (.bin .lss) (.o1 .ld1 (.o1 (.fld 4) (.t 1))) (.c (.int .i64 1))) (.c (.bool true)) (.o2 (.bin .gtr) (.o1 .ld1 (.o1 (.fld 4) (.t 1))) (.c (.int .i64 6)))), false)] (.c1 (.fld 0) (.o1 (.fld 1) (.t 1)))),
    (.chk [((.o3 .pick (.o2 (.bin .lss) (.o1 .ld1 (.o1 (.fld 4) (.t 1))) (.c (.int .i64 1))) (.c (.bool true)) (.o2 (.bin .gtr) (.o1 .ld1 (.o1 (.fld 4) (.t 1))) (.c (.int .i64 6)))), false)] (.c1 .ld1 (.o1 (.fld 0) (.o1 (.fld 1) (.t 1))))),
    (.chk [((.o3 .pick (.o2 (.bin .lss) (.o1 .ld1 (.o1 (.fld 4) (.t 1))) (.c (.int .i64 1))) (.c (.bool true)) (.o2 (.bin .gtr) (.o1 .ld1 (.o1 (.fld 4) (.t 1))) (.c (.int .i64 6)))), false)] (.c2 (.bin .neq) (.o1 .ld1 (.o1 (.fld 0) (.o1 (.fld 1) (.t 1)))) (.c (str [])))),
    (.chk [] (.c3 .pick (.o3 .pick (.o2 (.bin .lss) (.o1 .ld1 (.o1 (.fld 4) (.t 1))) (.c (.int .i64 1))) (.c (.bool true)) (.o2 (.bin .gtr) (.o1 .ld1 (.o1 (.fld 4) (.t 1))) (.c (.int .i64 6)))) (.c (.bool true)) (.o2 (.bin .neq) (.o1 .ld1 (.o1 (.fld 0) (.o1 (.fld 1) (.t 1)))) (.c (str []))))),
    (.chk [((.o3 .pick (.o3 .pick (.o2 (.bin .lss) (.o1 .ld1 (.o1 (.fld 4) (.t 1))) (.c (.int .i64 1))) (.c (.bool true)) (.o2 (.bin .gtr) (.o1 .ld1 (.o1 (.fld 4) (.t 1))) (.c (.int .i64 6)))) (.c (.bool true)) (.o2 (.bin .neq) (.o1 .ld1 (.o1 (.fld 0) (.o1 (.fld 1) (.t 1)))) (.c (str [])))), false)] (.c1 (.fld 1) (.t 1))),
    (.chk [((.o3 .pick (.o3 .pick (.o2 (.bin .lss) (.o1 .ld1 (.o1 (.fld 4) (.t 1))) (.c (.int .i64 1))) (.c (.bool true)) (.o2 (.bin .gtr) (.o1 .ld1 (.o1 (.fld 4) (.t 1))) (.c (.int .i64 6)))) (.c (.bool true)) (.o2 (.bin .neq) (.o1 .ld1 (.o1 (.fld 0) (.o1 (.fld 1) (.t 1)))) (.c (str [])))), false)] (.c1 (.fld 1) (.o1 (.fld 1) (.t 1)))),
    (.chk [((.o3 .pick (.o3 .pick (.o2 (.bin .lss) (.o1 .ld1 (.o1 (.fld 4) (.t 1))) (.c (.int .i64 1))) (.c (.bool true)) (.o2 (.bin .gtr) (.o1 .ld1 (.o1 (.fld 4) (.t 1))) (.c (.int .i64 6)))) (.c (.bool true)) (.o2 (.bin .neq) (.o1 .ld1 (.o1 (.fld 0) (.o1 (.fld 1) (.t 1)))) (.c (str [])))), false)] (.c1 .ld1 (.o1 (.fld 1) (.o1 (.fld 1) (.t 1))))),
    (.chk [((.o3 .pick (.o3 .pick (.o2 (.bin .lss) (.o1 .ld1 (.o1 (.fld 4) (.t 1))) (.c (.int .i64 1))) (.c (.bool true)) (.o2 (.bin .gtr) (.o1 .ld1 (.o1 (.fld 4) (.t 1))) (.c (.int .i64 6)))) (.c (.bool true)) (.o2 (.bin .neq) (.o1 .ld1 (.o1 (.fld 0) (.o1 (.fld 1) (.t 1)))) (.c (str [])))), false)] (.c1 .len (.o1 .ld1 (.o1 (.fld 1) (.o1 (.fld 1) (.t 1)))))),
    (.chk [((.o3 .pick (.o3 .pick (.o2 (.bin .lss) (.o1 .ld1 (.o1 (.fld 4) (.t 1))) (.c (.int .i64 1))) (.c (.bool true)) (.o2 (.bin .gtr) (.o1 .ld1 (.o1 (.fld 4) (.t 1))) (.c (.int .i64 6)))) (.c (.bool true)) (.o2 (.bin .neq) (.o1 .ld1 (.o1 (.fld 0) (.o1 (.fld 1) (.t 1)))) (.c (str [])))), false)] (.c2 (.bin .gtr) (.o1 .len (.o1 .ld1 (.o1 (.fld 1) (.o1 (.fld 1) (.t 1))))) (.c (.int .i64 0)))),
    (.chk [] (.c3 .pick (.o3 .pick (.o3 .pick (.o2 (.bin .lss) (.o1 .ld1 (.o1 (.fld 4) (.t 1))) (.c (.int .i64 1))) (.c (.bool true)) (.o2 (.bin .gtr) (.o1 .ld1 (.o1 (.fld 4) (.t 1))) (.c (.int .i64 6)))) (.c (.bool true)) (.o2 (.bin .neq) (.o1 .ld1 (.o1 (.fld 0) (.o1 (.fld 1) (.t 1)))) (.c (str [])))) (.c (.bool true)) (.o2 (.bin .gtr) (.o1 .len (.o1 .ld1 (.o1 (.fld 1) (.o1 (.fld 1) (.t 1))))) (.c (.int .i64 0))))),
    (.set 48 (.o3 .pick (.o3 .pick (.o3 .pick (.o2 (.bin .lss) (.o1 .ld1 (.o1 (.fld 4) (.t 1))) (.c (.int .i64 1))) (.c (.bool true)) (.o2 (.bin .gtr) (.o1 .ld1 (.o1 (.fld 4) (.t 1))) (.c (.int .i64 6)))) (.c (.bool true)) (.o2 (.bin .neq) (.o1 .ld1 (.o1 (.fld 0) (.o1 (.fld 1) (.t 1)))) (.c (str [])))) (.c (.bool true)) (.o2 (.bin .gtr) (.o1 .len (.o1 .ld1 (.o1 (.fld 1) (.o1 (.fld 1) (.t 1))))) (.c (.int .i64 0)))))]) (.cond 48 (.seq (.sts [(.set 2 (.c (.int .i64 2)))]) .ret) .skip)) (.seq (.sts [(.chk [] (.c1 (.fld 5) (.t 1))),
    (.chk [] (.c1 (.ldn 4) (.o1 (.fld 5) (.t 1)))),
    (.chk [] (.c1 (.fld 9) (.t 1))),
    (.chk [] (.c1 (.ldn 4) (.o1 (.fld 9) (.t 1)))),
    (.set 52 (.o1 (.ldn 4) (.o1 (.fld 9) (.t 1)))),
    (.set 50 (.o1 (.ldn 4) (.o1 (.fld 5) (.t 1)))),
    (.eff [] (some 53) (.bsl 43 4 2 [(.int .i64 0), (.int .i64 0), (str []), (.int .i64 0), (.int .i64 0), (.int .i64 0), (str []), (.int .i64 0)] [0, 1]) [(.t 50), (.t 52)] []),
    (.eff [] (some 54) (.call 33) [(.t 53), (.c (.func (.func 34) #[] #[]))] []),
    (.set 2 (.t 54))]) .ret)) .skip)))))) (.seq (.sts [(.set 2 (.c (.int .i64 2)))]) .ret)))
def prWellLiteral_E : Res := [(none, (.t 2))]
theorem prWellLiteral_C : Try.f25.body.bind (comp Try.prog prWellLiteral_M Try.f25.ntmps) = some prWellLiteral_S := by kernel_rfl
theorem prWellLiteral_R : resE Try.prog prWellLiteral_M Try.f25.results.toList = some prWellLiteral_E := by kernel_rfl
theorem prWellLiteral_H (G : Ctr) (hG : GOk Try.prog G) (a0 : Value) {h : H} {K : Value → H → Prop} {KP : List PanicEntry → H → Prop} (Hw : wpS G prWellLiteral_S (retQ prWellLiteral_E (callK K KP)) (envOf 0 [a0] env0) h) : HCX Try.prog 25 [a0] h K KP :=
  .inl ⟨by kernel_rfl, hc_of mixed hG Try.func25 prWellLiteral_C prWellLiteral_R (of_decide_eq_true (by kernel_rfl)) Hw⟩
def prFirstL_M : Nat → Bool := fun i => Nat.testBit 266195 i
def prFirstL_L1 : S :=
  (.seq (.sts [(.chk [] (.c2 (.bin .lss) (.t 10) (.t 9))),
    (.set 11 (.o2 (.bin .lss) (.t 10) (.t 9)))]) (.seq (.cond 11 .skip (.exit 0)) (.seq (.block 1 (.seq (.sts [(.chk [] (.c2 (.idxA 14) (.t 8) (.t 10))),
    (.chk [] (.c1 (.ldn 14) (.o2 (.idxA 14) (.t 8) (.t 10)))),
    (.set 13 (.o1 (.ldn 14) (.o2 (.idxA 14) (.t 8) (.t 10)))),
    (.eff [] (some 6) (.alloc 49 #[(.int .i64 0), (str []), (.slice none 0 0), (.int .i64 0), (.int .i64 0), (.int .i64 0), (.int .i64 0), (str []), (.int .i64 0), (.int .i64 0), (.int .i64 0), (str []), (.int .i64 0), (.int .i64 0)]) [] []),
    (.eff [] none (.store 14) [(.t 6), (.t 13)] [])]) (.seq (.sts [(.chk [] (.c1 (.ldn 14) (.t 6))),
    (.set 15 (.o1 (.ldn 14) (.t 6))),
    (.eff [] (some 16) .callv [(.t 1), (.t 15)] []),
    (.set 7 (.t 16))]) (.seq (.sts [(.chk [] (.c2 (.bin .neq) (.t 7) (.c (.int .i64 0)))),
    (.set 18 (.o2 (.bin .neq) (.t 7) (.c (.int .i64 0))))]) (.cond 18 (.seq (.sts [(.set 4 (.t 7))]) .ret) .skip))))) (.sts [(.chk [] (.c2 (.bin .add) (.t 10) (.c (.int .i64 1)))),
    (.set 20 (.o2 (.bin .add) (.t 10) (.c (.int .i64 1)))),
    (.set 10 (.t 20))]))))
def prFirstL_S : S :=
  (.seq (.sts [(.set 4 (.c (.int .i64 0)))]) (.seq (.seq (.sts [(.set 8 (.t 0)),
    (.chk [] (.c1 .len (.t 8))),
    (.set 9 (.o1 .len (.t 8))),
    (.set 10 (.c (.int .i64 0)))]) (.block 0 (.loop prFirstL_L1))) (.seq (.sts [(.set 4 (.c (.int .i64 0)))]) .ret)))
def prFirstL_E : Res := [(none, (.t 4))]
theorem prFirstL_C : Try.f24.body.bind (comp Try.prog prFirstL_M Try.f24.ntmps) = some prFirstL_S := by kernel_rfl
theorem prFirstL_R : resE Try.prog prFirstL_M Try.f24.results.toList = some prFirstL_E := by kernel_rfl
theorem prFirstL_H (G : Ctr) (hG : GOk Try.prog G) (a0 : Value) (a1 : Value) {h : H} {K : Value → H → Prop} {KP : List PanicEntry → H → Prop} (Hw : wpS G prFirstL_S (retQ prFirstL_E (callK K KP)) (envOf 0 [a0, a1] env0) h) : HCX Try.prog 24 [a0, a1] h K KP :=
  .inl ⟨by kernel_rfl, hc_of mixed hG Try.func24 prFirstL_C prFirstL_R (of_decide_eq_true (by kernel_rfl)) Hw⟩
def prWellClause_M : Nat → Bool := fun i => Nat.testBit 8463 i
def prWellClause_S : S :=
  (.seq (.sts [(.eff [] (some 1) (.box 31) [(.t 0)] []),
    (.set 2 (.c (.int .i64 0)))]) (.seq (.seq (.sts [(.chk [] (.c1 (.fld 0) (.t 1))),
    (.chk [] (.c1 (.ldn 3) (.o1 (.fld 0) (.t 1)))),
    (.set 5 (.o1 (.ldn 3) (.o1 (.fld 0) (.t 1)))),
    (.eff [] (some 6) (.call 23) [(.t 5)] []),
    (.set 3 (.t 6))]) (.seq (.sts [(.chk [] (.c2 (.bin .neq) (.t 3) (.c (.int .i64 0)))),
    (.set 8 (.o2 (.bin .neq) (.t 3) (.c (.int .i64 0))))]) (.cond 8 (.seq (.sts [(.set 2 (.t 3))]) .ret) .skip))) (.seq (.seq (.sts [(.chk [] (.c1 (.fld 3) (.t 1))),
    (.chk [] (.c1 .ld1 (.o1 (.fld 3) (.t 1)))),
    (.chk [] (.c1 .len (.o1 .ld1 (.o1 (.fld 3) (.t 1))))),
    (.chk [] (.c2 (.bin .gtr) (.o1 .len (.o1 .ld1 (.o1 (.fld 3) (.t 1)))) (.c (.int .i64 16)))),
    (.set 13 (.o2 (.bin .gtr) (.o1 .len (.o1 .ld1 (.o1 (.fld 3) (.t 1)))) (.c (.int .i64 16))))]) (.cond 13 (.seq (.sts [(.set 2 (.c (.int .i64 23)))]) .ret) .skip)) (.seq (.sts [(.chk [] (.c1 (.fld 3) (.t 1))),
    (.chk [] (.c1 .ld1 (.o1 (.fld 3) (.t 1)))),
    (.set 15 (.o1 .ld1 (.o1 (.fld 3) (.t 1)))),
    (.eff [] (some 16) (.call 24) [(.t 15), (.c (.func (.func 25) #[] #[]))] []),
    (.set 2 (.t 16))]) .ret))))
def prWellClause_E : Res := [(none, (.t 2))]
theorem prWellClause_C : Try.f14.body.bind (comp Try.prog prWellClause_M Try.f14.ntmps) = some prWellClause_S := by kernel_rfl
theorem prWellClause_R : resE Try.prog prWellClause_M Try.f14.results.toList = some prWellClause_E := by kernel_rfl
theorem prWellClause_H (G : Ctr) (hG : GOk Try.prog G) (a0 : Value) {h : H} {K : Value → H → Prop} {KP : List PanicEntry → H → Prop} (Hw : wpS G prWellClause_S (retQ prWellClause_E (callK K KP)) (envOf 0 [a0] env0) h) : HCX Try.prog 14 [a0] h K KP :=
  .inl ⟨by kernel_rfl, hc_of mixed hG Try.func14 prWellClause_C prWellClause_R (of_decide_eq_true (by kernel_rfl)) Hw⟩
def prFirstC_M : Nat → Bool := fun i => Nat.testBit 266195 i
def prFirstC_L1 : S :=
  (.seq (.sts [(.chk [] (.c2 (.bin .lss) (.t 10) (.t 9))),
    (.set 11 (.o2 (.bin .lss) (.t 10) (.t 9)))]) (.seq (.cond 11 .skip (.exit 0)) (.seq (.block 1 (.seq (.sts [(.chk [] (.c2 (.idxA 4) (.t 8) (.t 10))),
    (.chk [] (.c1 (.ldn 4) (.o2 (.idxA 4) (.t 8) (.t 10)))),
    (.set 13 (.o1 (.ldn 4) (.o2 (.idxA 4) (.t 8) (.t 10)))),
    (.eff [] (some 6) (.alloc 31 #[(str []), (.slice none 0 0), (.int .i64 0), (.slice none 0 0)]) [] []),
    (.eff [] none (.store 4) [(.t 6), (.t 13)] [])]) (.seq (.sts [(.chk [] (.c1 (.ldn 4) (.t 6))),
    (.set 15 (.o1 (.ldn 4) (.t 6))),
    (.eff [] (some 16) .callv [(.t 1), (.t 15)] []),
    (.set 7 (.t 16))]) (.seq (.sts [(.chk [] (.c2 (.bin .neq) (.t 7) (.c (.int .i64 0)))),
    (.set 18 (.o2 (.bin .neq) (.t 7) (.c (.int .i64 0))))]) (.cond 18 (.seq (.sts [(.set 4 (.t 7))]) .ret) .skip))))) (.sts [(.chk [] (.c2 (.bin .add) (.t 10) (.c (.int .i64 1)))),
    (.set 20 (.o2 (.bin .add) (.t 10) (.c (.int .i64 1)))),
    (.set 10 (.t 20))]))))
def prFirstC_S : S :=
  (.seq (.sts [(.set 4 (.c (.int .i64 0)))]) (.seq (.seq (.sts [(.set 8 (.t 0)),
    (.chk [] (.c1 .len (.t 8))),
    (.set 9 (.o1 .len (.t 8))),
    (.set 10 (.c (.int .i64 0)))]) (.block 0 (.loop prFirstC_L1))) (.seq (.sts [(.set 4 (.c (.int .i64 0)))]) .ret)))
def prFirstC_E : Res := [(none, (.t 4))]
theorem prFirstC_C : Try.f16.body.bind (comp Try.prog prFirstC_M Try.f16.ntmps) = some prFirstC_S := by kernel_rfl
theorem prFirstC_R : resE Try.prog prFirstC_M Try.f16.results.toList = some prFirstC_E := by kernel_rfl
theorem prFirstC_H (G : Ctr) (hG : GOk Try.prog G) (a0 : Value) (a1 : Value) {h : H} {K : Value → H → Prop} {KP : List PanicEntry → H → Prop} (Hw : wpS G prFirstC_S (retQ prFirstC_E (callK K KP)) (envOf 0 [a0, a1] env0) h) : HCX Try.prog 16 [a0, a1] h K KP :=
  .inl ⟨by kernel_rfl, hc_of mixed hG Try.func16 prFirstC_C prFirstC_R (of_decide_eq_true (by kernel_rfl)) Hw⟩
def prWell_M : Nat → Bool := fun i => Nat.testBit 71 i
def prWell_S : S :=
  (.seq (.sts [(.eff [] (some 1) (.box 24) [(.t 0)] []),
    (.set 2 (.c (.int .i64 0)))]) (.seq (.seq (.sts [(.chk [] (.c1 (.fld 0) (.t 1))),
    (.chk [] (.c1 .ld1 (.o1 (.fld 0) (.t 1)))),
    (.chk [] (.c1 .len (.o1 .ld1 (.o1 (.fld 0) (.t 1))))),
    (.chk [] (.c2 (.bin .gtr) (.o1 .len (.o1 .ld1 (.o1 (.fld 0) (.t 1)))) (.c (.int .i64 512)))),
    (.set 6 (.o2 (.bin .gtr) (.o1 .len (.o1 .ld1 (.o1 (.fld 0) (.t 1)))) (.c (.int .i64 512))))]) (.cond 6 (.seq (.sts [(.set 2 (.c (.int .i64 24)))]) .ret) .skip)) (.seq (.sts [(.chk [] (.c1 (.fld 0) (.t 1))),
    (.chk [] (.c1 .ld1 (.o1 (.fld 0) (.t 1)))),
    (.set 8 (.o1 .ld1 (.o1 (.fld 0) (.t 1)))),
    (.eff [] (some 9) (.call 16) [(.t 8), (.c (.func (.func 14) #[] #[]))] []),
    (.set 2 (.t 9))]) .ret)))
def prWell_E : Res := [(none, (.t 2))]
theorem prWell_C : Try.f9.body.bind (comp Try.prog prWell_M Try.f9.ntmps) = some prWell_S := by kernel_rfl
theorem prWell_R : resE Try.prog prWell_M Try.f9.results.toList = some prWell_E := by kernel_rfl
theorem prWell_H (G : Ctr) (hG : GOk Try.prog G) (a0 : Value) {h : H} {K : Value → H → Prop} {KP : List PanicEntry → H → Prop} (Hw : wpS G prWell_S (retQ prWell_E (callK K KP)) (envOf 0 [a0] env0) h) : HCX Try.prog 9 [a0] h K KP :=
  .inl ⟨by kernel_rfl, hc_of mixed hG Try.func9 prWell_C prWell_R (of_decide_eq_true (by kernel_rfl)) Hw⟩
end Go.Proofs.Ytdaldilmjhdpaaa
