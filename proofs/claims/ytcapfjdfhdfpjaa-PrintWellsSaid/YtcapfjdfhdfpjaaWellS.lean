/- The small statements of functions of the program, as the closed computation gives them (written by a program of ours; checked by the kernel below). -/
import Derived.Test.YtcapfjdfhdfpjaaEvB
import Derived.Test.YtcapfjdfhdfpjaaProg
import Derived.KernelRfl
namespace Go.Proofs.Ytcapfjdfhdfpjaa
open Go Go.Ev
theorem mixed : Try.prog.follows .mixedOrders = true := by kernel_rfl
def symSmall_M : Nat → Bool := fun i => Nat.testBit 5 i
def symSmall_S : S :=
  (.seq (.sts [(.set 2 (.c (.bool false)))]) (.seq (.sts [(.chk [] (.c2 (.bin .leq) (.c (.int .u8 97)) (.t 0))),
    (.chk [((.o2 (.bin .leq) (.c (.int .u8 97)) (.t 0)), true)] (.c2 (.bin .leq) (.t 0) (.c (.int .u8 122)))),
    (.chk [] (.c3 .pick (.o2 (.bin .leq) (.c (.int .u8 97)) (.t 0)) (.o2 (.bin .leq) (.t 0) (.c (.int .u8 122))) (.c (.bool false)))),
    (.set 2 (.o3 .pick (.o2 (.bin .leq) (.c (.int .u8 97)) (.t 0)) (.o2 (.bin .leq) (.t 0) (.c (.int .u8 122))) (.c (.bool false))))]) .ret))
def symSmall_E : Res := [(none, (.t 2))]
theorem symSmall_C : Try.f26.body.bind (comp Try.prog symSmall_M Try.f26.ntmps) = some symSmall_S := by kernel_rfl
theorem symSmall_R : resE Try.prog symSmall_M Try.f26.results.toList = some symSmall_E := by kernel_rfl
theorem symSmall_H (G : Ctr) (hG : GOk Try.prog G) (a0 : Value) {h : H} {K : Value → H → Prop} {KP : List PanicEntry → H → Prop} (Hw : wpS G symSmall_S (retQ symSmall_E (callK K KP)) (envOf 0 [a0] env0) h) : HCX Try.prog 26 [a0] h K KP :=
  .inl ⟨by kernel_rfl, hc_of mixed hG Try.func26 symSmall_C symSmall_R (of_decide_eq_true (by kernel_rfl)) Hw⟩
def symBig_M : Nat → Bool := fun i => Nat.testBit 5 i
def symBig_S : S :=
  (.seq (.sts [(.set 2 (.c (.bool false)))]) (.seq (.sts [(.chk [] (.c2 (.bin .leq) (.c (.int .u8 65)) (.t 0))),
    (.chk [((.o2 (.bin .leq) (.c (.int .u8 65)) (.t 0)), true)] (.c2 (.bin .leq) (.t 0) (.c (.int .u8 90)))),
    (.chk [] (.c3 .pick (.o2 (.bin .leq) (.c (.int .u8 65)) (.t 0)) (.o2 (.bin .leq) (.t 0) (.c (.int .u8 90))) (.c (.bool false)))),
    (.chk [((.o3 .pick (.o2 (.bin .leq) (.c (.int .u8 65)) (.t 0)) (.o2 (.bin .leq) (.t 0) (.c (.int .u8 90))) (.c (.bool false))), false)] (.c2 (.bin .eql) (.t 0) (.c (.int .u8 95)))),
    (.chk [] (.c3 .pick (.o3 .pick (.o2 (.bin .leq) (.c (.int .u8 65)) (.t 0)) (.o2 (.bin .leq) (.t 0) (.c (.int .u8 90))) (.c (.bool false))) (.c (.bool true)) (.o2 (.bin .eql) (.t 0) (.c (.int .u8 95))))),
    (.set 2 (.o3 .pick (.o3 .pick (.o2 (.bin .leq) (.c (.int .u8 65)) (.t 0)) (.o2 (.bin .leq) (.t 0) (.c (.int .u8 90))) (.c (.bool false))) (.c (.bool true)) (.o2 (.bin .eql) (.t 0) (.c (.int .u8 95)))))]) .ret))
def symBig_E : Res := [(none, (.t 2))]
theorem symBig_C : Try.f32.body.bind (comp Try.prog symBig_M Try.f32.ntmps) = some symBig_S := by kernel_rfl
theorem symBig_R : resE Try.prog symBig_M Try.f32.results.toList = some symBig_E := by kernel_rfl
theorem symBig_H (G : Ctr) (hG : GOk Try.prog G) (a0 : Value) {h : H} {K : Value → H → Prop} {KP : List PanicEntry → H → Prop} (Hw : wpS G symBig_S (retQ symBig_E (callK K KP)) (envOf 0 [a0] env0) h) : HCX Try.prog 32 [a0] h K KP :=
  .inl ⟨by kernel_rfl, hc_of mixed hG Try.func32 symBig_C symBig_R (of_decide_eq_true (by kernel_rfl)) Hw⟩
def symWord_M : Nat → Bool := fun i => Nat.testBit 17592312922195 i
def symWord_L1 : S :=
  (.seq (.sts [(.chk [] (.c2 (.bin .lss) (.t 25) (.t 24))),
    (.set 26 (.o2 (.bin .lss) (.t 25) (.t 24)))]) (.seq (.cond 26 .skip (.exit 0)) (.seq (.block 1 (.seq (.sts [(.chk [] (.c2 (.idxA 1) (.t 23) (.t 25))),
    (.chk [] (.c1 .ld1 (.o2 (.idxA 1) (.t 23) (.t 25)))),
    (.set 6 (.o1 .ld1 (.o2 (.idxA 1) (.t 23) (.t 25))))]) (.seq (.sts [(.eff [] (some 30) (.call 26) [(.t 6)] []),
    (.chk [] (.c1 .not (.t 30))),
    (.eff [((.o1 .not (.t 30)), true)] (some 34) (.call 32) [(.t 6)] []),
    (.chk [((.o1 .not (.t 30)), true)] (.c1 .not (.t 34))),
    (.chk [] (.c3 .pick (.o1 .not (.t 30)) (.o1 .not (.t 34)) (.c (.bool false)))),
    (.chk [((.o3 .pick (.o1 .not (.t 30)) (.o1 .not (.t 34)) (.c (.bool false))), true)] (.c2 (.bin .lss) (.t 6) (.c (.int .u8 48)))),
    (.chk [((.o2 (.bin .lss) (.t 6) (.c (.int .u8 48))), false), ((.o3 .pick (.o1 .not (.t 30)) (.o1 .not (.t 34)) (.c (.bool false))), true)] (.c2 (.bin .gtr) (.t 6) (.c (.int .u8 57)))),
    (.chk [((.o3 .pick (.o1 .not (.t 30)) (.o1 .not (.t 34)) (.c (.bool false))), true)] (.c3 .pick (.o2 (.bin .lss) (.t 6) (.c (.int .u8 48))) (.c (.bool true)) (.o2 (.bin .gtr) (.t 6) (.c (.int .u8 57))))),
    (.chk [] (.c3 .pick (.o3 .pick (.o1 .not (.t 30)) (.o1 .not (.t 34)) (.c (.bool false))) (.o3 .pick (.o2 (.bin .lss) (.t 6) (.c (.int .u8 48))) (.c (.bool true)) (.o2 (.bin .gtr) (.t 6) (.c (.int .u8 57)))) (.c (.bool false)))),
    (.set 44 (.o3 .pick (.o3 .pick (.o1 .not (.t 30)) (.o1 .not (.t 34)) (.c (.bool false))) (.o3 .pick (.o2 (.bin .lss) (.t 6) (.c (.int .u8 48))) (.c (.bool true)) (.o2 (.bin .gtr) (.t 6) (.c (.int .u8 57)))) (.c (.bool false))))]) (.cond 44 (.seq (.sts [(.set 4 (.c (.bool false)))]) .ret) .skip)))) (.sts [(.chk [] (.c2 (.bin .add) (.t 25) (.c (.int .i64 1)))),
    (.set 45 (.o2 (.bin .add) (.t 25) (.c (.int .i64 1)))),
    (.set 25 (.t 45))]))))
def symWord_S : S :=
  (.seq (.sts [(.set 4 (.c (.bool false)))]) (.seq (.seq (.sts [(.chk [] (.c2 (.bin .eql) (.t 0) (.c (str [])))),
    (.chk [((.o2 (.bin .eql) (.t 0) (.c (str []))), false)] (.c1 .lens (.t 0))),
    (.chk [((.o2 (.bin .eql) (.t 0) (.c (str []))), false)] (.c2 (.bin .gtr) (.o1 .lens (.t 0)) (.c (.int .i64 64)))),
    (.chk [] (.c3 .pick (.o2 (.bin .eql) (.t 0) (.c (str []))) (.c (.bool true)) (.o2 (.bin .gtr) (.o1 .lens (.t 0)) (.c (.int .i64 64))))),
    (.chk [((.o3 .pick (.o2 (.bin .eql) (.t 0) (.c (str []))) (.c (.bool true)) (.o2 (.bin .gtr) (.o1 .lens (.t 0)) (.c (.int .i64 64)))), false)] (.c2 .idxS (.t 0) (.c (.int .i64 0)))),
    (.eff [((.o3 .pick (.o2 (.bin .eql) (.t 0) (.c (str []))) (.c (.bool true)) (.o2 (.bin .gtr) (.o1 .lens (.t 0)) (.c (.int .i64 64)))), false)] (some 18) .callv [(.t 1), (.o2 .idxS (.t 0) (.c (.int .i64 0)))] []),
    (.chk [((.o3 .pick (.o2 (.bin .eql) (.t 0) (.c (str []))) (.c (.bool true)) (.o2 (.bin .gtr) (.o1 .lens (.t 0)) (.c (.int .i64 64)))), false)] (.c1 .not (.t 18))),
    (.chk [] (.c3 .pick (.o3 .pick (.o2 (.bin .eql) (.t 0) (.c (str []))) (.c (.bool true)) (.o2 (.bin .gtr) (.o1 .lens (.t 0)) (.c (.int .i64 64)))) (.c (.bool true)) (.o1 .not (.t 18)))),
    (.set 20 (.o3 .pick (.o3 .pick (.o2 (.bin .eql) (.t 0) (.c (str []))) (.c (.bool true)) (.o2 (.bin .gtr) (.o1 .lens (.t 0)) (.c (.int .i64 64)))) (.c (.bool true)) (.o1 .not (.t 18))))]) (.cond 20 (.seq (.sts [(.set 4 (.c (.bool false)))]) .ret) .skip)) (.seq (.seq (.sts [(.chk [] (.c2 .subLo (.t 0) (.c (.int .i64 1)))),
    (.eff [] (some 23) (.s2b 5) [(.o2 .subLo (.t 0) (.c (.int .i64 1)))] []),
    (.chk [] (.c1 .len (.t 23))),
    (.set 24 (.o1 .len (.t 23))),
    (.set 25 (.c (.int .i64 0)))]) (.block 0 (.loop symWord_L1))) (.seq (.sts [(.set 4 (.c (.bool true)))]) .ret))))
def symWord_E : Res := [(none, (.t 4))]
theorem symWord_C : Try.f25.body.bind (comp Try.prog symWord_M Try.f25.ntmps) = some symWord_S := by kernel_rfl
theorem symWord_R : resE Try.prog symWord_M Try.f25.results.toList = some symWord_E := by kernel_rfl
theorem symWord_H (G : Ctr) (hG : GOk Try.prog G) (a0 : Value) (a1 : Value) {h : H} {K : Value → H → Prop} {KP : List PanicEntry → H → Prop} (Hw : wpS G symWord_S (retQ symWord_E (callK K KP)) (envOf 0 [a0, a1] env0) h) : HCX Try.prog 25 [a0, a1] h K KP :=
  .inl ⟨by kernel_rfl, hc_of mixed hG Try.func25 symWord_C symWord_R (of_decide_eq_true (by kernel_rfl)) Hw⟩
def symIsName_M : Nat → Bool := fun i => Nat.testBit 5 i
def symIsName_S : S :=
  (.seq (.sts [(.set 2 (.c (.bool false)))]) (.seq (.sts [(.chk [] (.c2 (.bin .neq) (.t 0) (.c (str [110, 111, 116])))),
    (.eff [((.o2 (.bin .neq) (.t 0) (.c (str [110, 111, 116]))), true)] (some 7) (.call 25) [(.t 0), (.c (.func (.func 26) #[] #[]))] []),
    (.chk [] (.c3 .pick (.o2 (.bin .neq) (.t 0) (.c (str [110, 111, 116]))) (.t 7) (.c (.bool false)))),
    (.set 2 (.o3 .pick (.o2 (.bin .neq) (.t 0) (.c (str [110, 111, 116]))) (.t 7) (.c (.bool false))))]) .ret))
def symIsName_E : Res := [(none, (.t 2))]
theorem symIsName_C : Try.f17.body.bind (comp Try.prog symIsName_M Try.f17.ntmps) = some symIsName_S := by kernel_rfl
theorem symIsName_R : resE Try.prog symIsName_M Try.f17.results.toList = some symIsName_E := by kernel_rfl
theorem symIsName_H (G : Ctr) (hG : GOk Try.prog G) (a0 : Value) {h : H} {K : Value → H → Prop} {KP : List PanicEntry → H → Prop} (Hw : wpS G symIsName_S (retQ symIsName_E (callK K KP)) (envOf 0 [a0] env0) h) : HCX Try.prog 17 [a0] h K KP :=
  .inl ⟨by kernel_rfl, hc_of mixed hG Try.func17 symIsName_C symIsName_R (of_decide_eq_true (by kernel_rfl)) Hw⟩
def symIsVar_M : Nat → Bool := fun i => Nat.testBit 5 i
def symIsVar_S : S :=
  (.seq (.sts [(.set 2 (.c (.bool false)))]) (.seq (.sts [(.eff [] (some 4) (.call 25) [(.t 0), (.c (.func (.func 32) #[] #[]))] []),
    (.set 2 (.t 4))]) .ret))
def symIsVar_E : Res := [(none, (.t 2))]
theorem symIsVar_C : Try.f27.body.bind (comp Try.prog symIsVar_M Try.f27.ntmps) = some symIsVar_S := by kernel_rfl
theorem symIsVar_R : resE Try.prog symIsVar_M Try.f27.results.toList = some symIsVar_E := by kernel_rfl
theorem symIsVar_H (G : Ctr) (hG : GOk Try.prog G) (a0 : Value) {h : H} {K : Value → H → Prop} {KP : List PanicEntry → H → Prop} (Hw : wpS G symIsVar_S (retQ symIsVar_E (callK K KP)) (envOf 0 [a0] env0) h) : HCX Try.prog 27 [a0] h K KP :=
  .inl ⟨by kernel_rfl, hc_of mixed hG Try.func27 symIsVar_C symIsVar_R (of_decide_eq_true (by kernel_rfl)) Hw⟩
def symValid_M : Nat → Bool := fun i => Nat.testBit 1049655 i
def symValid_S : S :=
  (.seq (.sts [(.eff [] (some 1) (.box 50) [(.t 0)] []),
    (.set 2 (.c (.bool false)))]) (.seq (.seq (.sts [(.chk [] (.c1 (.fld 0) (.t 1))),
    (.chk [] (.c1 .ld1 (.o1 (.fld 0) (.t 1)))),
    (.set 4 (.o1 .ld1 (.o1 (.fld 0) (.t 1))))]) (.block 0 (.seq (.sts [(.chk [] (.c2 (.bin .eql) (.t 4) (.c (.int .i64 1)))),
    (.set 5 (.o2 (.bin .eql) (.t 4) (.c (.int .i64 1))))]) (.cond 5 (.seq (.sts [(.chk [] (.c1 (.fld 2) (.t 1))),
    (.chk [] (.c1 .ld1 (.o1 (.fld 2) (.t 1)))),
    (.chk [] (.c2 (.bin .eql) (.o1 .ld1 (.o1 (.fld 2) (.t 1))) (.c (str [])))),
    (.set 2 (.o2 (.bin .eql) (.o1 .ld1 (.o1 (.fld 2) (.t 1))) (.c (str []))))]) .ret) (.seq (.sts [(.chk [] (.c2 (.bin .eql) (.t 4) (.c (.int .i64 2)))),
    (.set 10 (.o2 (.bin .eql) (.t 4) (.c (.int .i64 2))))]) (.cond 10 (.seq (.sts [(.chk [] (.c1 (.fld 1) (.t 1))),
    (.chk [] (.c1 .ld1 (.o1 (.fld 1) (.t 1)))),
    (.chk [] (.c2 (.bin .eql) (.o1 .ld1 (.o1 (.fld 1) (.t 1))) (.c (.int .i64 0)))),
    (.chk [((.o2 (.bin .eql) (.o1 .ld1 (.o1 (.fld 1) (.t 1))) (.c (.int .i64 0))), true)] (.c1 (.fld 2) (.t 1))),
    (.chk [((.o2 (.bin .eql) (.o1 .ld1 (.o1 (.fld 1) (.t 1))) (.c (.int .i64 0))), true)] (.c1 .ld1 (.o1 (.fld 2) (.t 1)))),
    (.set 17 (.o1 .ld1 (.o1 (.fld 2) (.t 1)))),
    (.set 15 (.o2 (.bin .eql) (.o1 .ld1 (.o1 (.fld 1) (.t 1))) (.c (.int .i64 0)))),
    (.eff [((.t 15), true)] (some 18) (.call 17) [(.t 17)] []),
    (.chk [] (.c3 .pick (.t 15) (.t 18) (.c (.bool false)))),
    (.set 2 (.o3 .pick (.t 15) (.t 18) (.c (.bool false))))]) .ret) (.seq (.sts [(.chk [] (.c2 (.bin .eql) (.t 4) (.c (.int .i64 3)))),
    (.set 20 (.o2 (.bin .eql) (.t 4) (.c (.int .i64 3))))]) (.cond 20 (.seq (.sts [(.chk [] (.c1 (.fld 1) (.t 1))),
    (.chk [] (.c1 .ld1 (.o1 (.fld 1) (.t 1)))),
    (.chk [] (.c2 (.bin .eql) (.o1 .ld1 (.o1 (.fld 1) (.t 1))) (.c (.int .i64 0)))),
    (.chk [((.o2 (.bin .eql) (.o1 .ld1 (.o1 (.fld 1) (.t 1))) (.c (.int .i64 0))), true)] (.c1 (.fld 2) (.t 1))),
    (.chk [((.o2 (.bin .eql) (.o1 .ld1 (.o1 (.fld 1) (.t 1))) (.c (.int .i64 0))), true)] (.c1 .ld1 (.o1 (.fld 2) (.t 1)))),
    (.chk [((.o2 (.bin .eql) (.o1 .ld1 (.o1 (.fld 1) (.t 1))) (.c (.int .i64 0))), true)] (.c1 .lens (.o1 .ld1 (.o1 (.fld 2) (.t 1))))),
    (.chk [((.o2 (.bin .eql) (.o1 .ld1 (.o1 (.fld 1) (.t 1))) (.c (.int .i64 0))), true)] (.c2 (.bin .leq) (.o1 .lens (.o1 .ld1 (.o1 (.fld 2) (.t 1)))) (.c (.int .i64 255)))),
    (.chk [] (.c3 .pick (.o2 (.bin .eql) (.o1 .ld1 (.o1 (.fld 1) (.t 1))) (.c (.int .i64 0))) (.o2 (.bin .leq) (.o1 .lens (.o1 .ld1 (.o1 (.fld 2) (.t 1)))) (.c (.int .i64 255))) (.c (.bool false)))),
    (.set 2 (.o3 .pick (.o2 (.bin .eql) (.o1 .ld1 (.o1 (.fld 1) (.t 1))) (.c (.int .i64 0))) (.o2 (.bin .leq) (.o1 .lens (.o1 .ld1 (.o1 (.fld 2) (.t 1)))) (.c (.int .i64 255))) (.c (.bool false))))]) .ret) .skip)))))))) (.seq (.sts [(.set 2 (.c (.bool false)))]) .ret)))
def symValid_E : Res := [(none, (.t 2))]
theorem symValid_C : Try.f33.body.bind (comp Try.prog symValid_M Try.f33.ntmps) = some symValid_S := by kernel_rfl
theorem symValid_R : resE Try.prog symValid_M Try.f33.results.toList = some symValid_E := by kernel_rfl
theorem symValid_H (G : Ctr) (hG : GOk Try.prog G) (a0 : Value) {h : H} {K : Value → H → Prop} {KP : List PanicEntry → H → Prop} (Hw : wpS G symValid_S (retQ symValid_E (callK K KP)) (envOf 0 [a0] env0) h) : HCX Try.prog 33 [a0] h K KP :=
  .inl ⟨by kernel_rfl, hc_of mixed hG Try.func33 symValid_C symValid_R (of_decide_eq_true (by kernel_rfl)) Hw⟩
def prConstant_M : Nat → Bool := fun i => Nat.testBit 7 i
def prConstant_S : S :=
  (.seq (.sts [(.eff [] (some 1) (.box 39) [(.t 0)] []),
    (.eff [] (some 2) (.alloc 50 #[(.int .i64 0), (.int .i64 0), (str [])]) [] [])]) (.seq (.sts [(.chk [] (.c1 (.fld 0) (.t 1))),
    (.chk [] (.c1 .ld1 (.o1 (.fld 0) (.t 1)))),
    (.chk [] (.c1 (.fld 1) (.t 1))),
    (.chk [] (.c1 .ld1 (.o1 (.fld 1) (.t 1)))),
    (.chk [] (.c1 (.fld 2) (.t 1))),
    (.chk [] (.c1 .ld1 (.o1 (.fld 2) (.t 1)))),
    (.chk [] (.cb 3 [(0, (1, (.o1 .ld1 (.o1 (.fld 0) (.t 1))))), (1, (1, (.o1 .ld1 (.o1 (.fld 1) (.t 1))))), (2, (1, (.o1 .ld1 (.o1 (.fld 2) (.t 1)))))])),
    (.set 9 (.o2 (.put 2 1) (.o2 (.put 1 1) (.o2 (.put 0 1) (.c (.agg #[(.int .i64 0), (.int .i64 0), (str [])])) (.o1 .ld1 (.o1 (.fld 0) (.t 1)))) (.o1 .ld1 (.o1 (.fld 1) (.t 1)))) (.o1 .ld1 (.o1 (.fld 2) (.t 1))))),
    (.eff [] none (.store 3) [(.t 2), (.t 9)] [])]) .ret))
def prConstant_E : Res := [((some (.c1 (.ldn 3) (.t 2))), (.o1 (.ldn 3) (.t 2)))]
theorem prConstant_C : Try.f29.body.bind (comp Try.prog prConstant_M Try.f29.ntmps) = some prConstant_S := by kernel_rfl
theorem prConstant_R : resE Try.prog prConstant_M Try.f29.results.toList = some prConstant_E := by kernel_rfl
theorem prConstant_H (G : Ctr) (hG : GOk Try.prog G) (a0 : Value) {h : H} {K : Value → H → Prop} {KP : List PanicEntry → H → Prop} (Hw : wpS G prConstant_S (retQ prConstant_E (callK K KP)) (envOf 0 [a0] env0) h) : HCX Try.prog 29 [a0] h K KP :=
  .inl ⟨by kernel_rfl, hc_of mixed hG Try.func29 prConstant_C prConstant_R (of_decide_eq_true (by kernel_rfl)) Hw⟩
def prWellConst_M : Nat → Bool := fun i => Nat.testBit 39 i
def prWellConst_S : S :=
  (.seq (.sts [(.eff [] (some 1) (.box 50) [(.t 0)] []),
    (.set 2 (.c (.int .i64 0)))]) (.seq (.seq (.sts [(.chk [] (.c1 (.ldn 3) (.t 1))),
    (.set 3 (.o1 (.ldn 3) (.t 1))),
    (.eff [] (some 4) (.call 33) [(.t 3)] []),
    (.chk [] (.c1 .not (.t 4))),
    (.set 5 (.o1 .not (.t 4)))]) (.cond 5 (.seq (.sts [(.set 2 (.c (.int .i64 5)))]) .ret) .skip)) (.seq (.sts [(.set 2 (.c (.int .i64 0)))]) .ret)))
def prWellConst_E : Res := [(none, (.t 2))]
theorem prWellConst_C : Try.f28.body.bind (comp Try.prog prWellConst_M Try.f28.ntmps) = some prWellConst_S := by kernel_rfl
theorem prWellConst_R : resE Try.prog prWellConst_M Try.f28.results.toList = some prWellConst_E := by kernel_rfl
theorem prWellConst_H (G : Ctr) (hG : GOk Try.prog G) (a0 : Value) {h : H} {K : Value → H → Prop} {KP : List PanicEntry → H → Prop} (Hw : wpS G prWellConst_S (retQ prWellConst_E (callK K KP)) (envOf 0 [a0] env0) h) : HCX Try.prog 28 [a0] h K KP :=
  .inl ⟨by kernel_rfl, hc_of mixed hG Try.func28 prWellConst_C prWellConst_R (of_decide_eq_true (by kernel_rfl)) Hw⟩
def prWellTerm_M : Nat → Bool := fun i => Nat.testBit 16423 i
def prWellTerm_S : S :=
  (.seq (.sts [(.eff [] (some 1) (.box 39) [(.t 0)] []),
    (.set 2 (.c (.int .i64 0)))]) (.seq (.seq (.sts [(.chk [] (.c1 (.fld 0) (.t 1))),
    (.chk [] (.c1 .ld1 (.o1 (.fld 0) (.t 1)))),
    (.chk [] (.c2 (.bin .eql) (.o1 .ld1 (.o1 (.fld 0) (.t 1))) (.c (.int .i64 4)))),
    (.set 5 (.o2 (.bin .eql) (.o1 .ld1 (.o1 (.fld 0) (.t 1))) (.c (.int .i64 4))))]) (.cond 5 (.seq (.seq (.sts [(.chk [] (.c1 (.fld 1) (.t 1))),
    (.chk [] (.c1 .ld1 (.o1 (.fld 1) (.t 1)))),
    (.chk [] (.c2 (.bin .neq) (.o1 .ld1 (.o1 (.fld 1) (.t 1))) (.c (.int .i64 0)))),
    (.chk [((.o2 (.bin .neq) (.o1 .ld1 (.o1 (.fld 1) (.t 1))) (.c (.int .i64 0))), false)] (.c1 (.fld 2) (.t 1))),
    (.chk [((.o2 (.bin .neq) (.o1 .ld1 (.o1 (.fld 1) (.t 1))) (.c (.int .i64 0))), false)] (.c1 .ld1 (.o1 (.fld 2) (.t 1)))),
    (.set 11 (.o1 .ld1 (.o1 (.fld 2) (.t 1)))),
    (.set 9 (.o2 (.bin .neq) (.o1 .ld1 (.o1 (.fld 1) (.t 1))) (.c (.int .i64 0)))),
    (.eff [((.t 9), false)] (some 12) (.call 27) [(.t 11)] []),
    (.chk [((.t 9), false)] (.c1 .not (.t 12))),
    (.chk [] (.c3 .pick (.t 9) (.c (.bool true)) (.o1 .not (.t 12)))),
    (.set 14 (.o3 .pick (.t 9) (.c (.bool true)) (.o1 .not (.t 12))))]) (.cond 14 (.seq (.sts [(.set 2 (.c (.int .i64 14)))]) .ret) .skip)) (.seq (.sts [(.set 2 (.c (.int .i64 0)))]) .ret)) .skip)) (.seq (.sts [(.chk [] (.c1 (.ldn 4) (.t 1))),
    (.set 15 (.o1 (.ldn 4) (.t 1))),
    (.eff [] (some 16) (.call 29) [(.t 15)] []),
    (.eff [] (some 17) (.call 28) [(.t 16)] []),
    (.set 2 (.t 17))]) .ret)))
def prWellTerm_E : Res := [(none, (.t 2))]
theorem prWellTerm_C : Try.f19.body.bind (comp Try.prog prWellTerm_M Try.f19.ntmps) = some prWellTerm_S := by kernel_rfl
theorem prWellTerm_R : resE Try.prog prWellTerm_M Try.f19.results.toList = some prWellTerm_E := by kernel_rfl
theorem prWellTerm_H (G : Ctr) (hG : GOk Try.prog G) (a0 : Value) {h : H} {K : Value → H → Prop} {KP : List PanicEntry → H → Prop} (Hw : wpS G prWellTerm_S (retQ prWellTerm_E (callK K KP)) (envOf 0 [a0] env0) h) : HCX Try.prog 19 [a0] h K KP :=
  .inl ⟨by kernel_rfl, hc_of mixed hG Try.func19 prWellTerm_C prWellTerm_R (of_decide_eq_true (by kernel_rfl)) Hw⟩
def prBare_M : Nat → Bool := fun i => Nat.testBit 7 i
def prBare_S : S :=
  (.seq (.sts [(.eff [] (some 1) (.box 39) [(.t 0)] []),
    (.set 2 (.c (.bool false)))]) (.seq (.sts [(.chk [] (.c1 (.fld 3) (.t 1))),
    (.eff [] none (.store 1) [(.o1 (.fld 3) (.t 1)), (.c (.int .i64 0))] [])]) (.seq (.sts [(.chk [] (.c1 (.ldn 4) (.t 1))),
    (.chk [] (.cb 4 [])),
    (.chk [] (.c2 (.eqs false [(.int .i64), (.int .i64), .str, (.int .i64)]) (.o1 (.ldn 4) (.t 1)) (.c (.agg #[(.int .i64 0), (.int .i64 0), (str []), (.int .i64 0)])))),
    (.set 2 (.o2 (.eqs false [(.int .i64), (.int .i64), .str, (.int .i64)]) (.o1 (.ldn 4) (.t 1)) (.c (.agg #[(.int .i64 0), (.int .i64 0), (str []), (.int .i64 0)]))))]) .ret)))
def prBare_E : Res := [(none, (.t 2))]
theorem prBare_C : Try.f20.body.bind (comp Try.prog prBare_M Try.f20.ntmps) = some prBare_S := by kernel_rfl
theorem prBare_R : resE Try.prog prBare_M Try.f20.results.toList = some prBare_E := by kernel_rfl
theorem prBare_H (G : Ctr) (hG : GOk Try.prog G) (a0 : Value) {h : H} {K : Value → H → Prop} {KP : List PanicEntry → H → Prop} (Hw : wpS G prBare_S (retQ prBare_E (callK K KP)) (envOf 0 [a0] env0) h) : HCX Try.prog 20 [a0] h K KP :=
  .inl ⟨by kernel_rfl, hc_of mixed hG Try.func20 prBare_C prBare_R (of_decide_eq_true (by kernel_rfl)) Hw⟩
def prFirstT_M : Nat → Bool := fun i => Nat.testBit 266195 i
def prFirstT_L1 : S :=
  (.seq (.sts [(.chk [] (.c2 (.bin .lss) (.t 10) (.t 9))),
    (.set 11 (.o2 (.bin .lss) (.t 10) (.t 9)))]) (.seq (.cond 11 .skip (.exit 0)) (.seq (.block 1 (.seq (.sts [(.chk [] (.c2 (.idxA 4) (.t 8) (.t 10))),
    (.chk [] (.c1 (.ldn 4) (.o2 (.idxA 4) (.t 8) (.t 10)))),
    (.set 13 (.o1 (.ldn 4) (.o2 (.idxA 4) (.t 8) (.t 10)))),
    (.eff [] (some 6) (.alloc 39 #[(.int .i64 0), (.int .i64 0), (str []), (.int .i64 0)]) [] []),
    (.eff [] none (.store 4) [(.t 6), (.t 13)] [])]) (.seq (.sts [(.chk [] (.c1 (.ldn 4) (.t 6))),
    (.set 15 (.o1 (.ldn 4) (.t 6))),
    (.eff [] (some 16) .callv [(.t 1), (.t 15)] []),
    (.set 7 (.t 16))]) (.seq (.sts [(.chk [] (.c2 (.bin .neq) (.t 7) (.c (.int .i64 0)))),
    (.set 18 (.o2 (.bin .neq) (.t 7) (.c (.int .i64 0))))]) (.cond 18 (.seq (.sts [(.set 4 (.t 7))]) .ret) .skip))))) (.sts [(.chk [] (.c2 (.bin .add) (.t 10) (.c (.int .i64 1)))),
    (.set 20 (.o2 (.bin .add) (.t 10) (.c (.int .i64 1)))),
    (.set 10 (.t 20))]))))
def prFirstT_S : S :=
  (.seq (.sts [(.set 4 (.c (.int .i64 0)))]) (.seq (.seq (.sts [(.set 8 (.t 0)),
    (.chk [] (.c1 .len (.t 8))),
    (.set 9 (.o1 .len (.t 8))),
    (.set 10 (.c (.int .i64 0)))]) (.block 0 (.loop prFirstT_L1))) (.seq (.sts [(.set 4 (.c (.int .i64 0)))]) .ret)))
def prFirstT_E : Res := [(none, (.t 4))]
theorem prFirstT_C : Try.f18.body.bind (comp Try.prog prFirstT_M Try.f18.ntmps) = some prFirstT_S := by kernel_rfl
theorem prFirstT_R : resE Try.prog prFirstT_M Try.f18.results.toList = some prFirstT_E := by kernel_rfl
theorem prFirstT_H (G : Ctr) (hG : GOk Try.prog G) (a0 : Value) (a1 : Value) {h : H} {K : Value → H → Prop} {KP : List PanicEntry → H → Prop} (Hw : wpS G prFirstT_S (retQ prFirstT_E (callK K KP)) (envOf 0 [a0, a1] env0) h) : HCX Try.prog 18 [a0, a1] h K KP :=
  .inl ⟨by kernel_rfl, hc_of mixed hG Try.func18 prFirstT_C prFirstT_R (of_decide_eq_true (by kernel_rfl)) Hw⟩
def prWellAtom_M : Nat → Bool := fun i => Nat.testBit 271 i
def prWellAtom_S : S :=
  (.seq (.sts [(.eff [] (some 1) (.box 31) [(.t 0)] []),
    (.set 2 (.c (.int .i64 0)))]) (.seq (.block 0 (.seq (.sts [(.chk [] (.c1 (.fld 0) (.t 1))),
    (.chk [] (.c1 .ld1 (.o1 (.fld 0) (.t 1)))),
    (.set 5 (.o1 .ld1 (.o1 (.fld 0) (.t 1)))),
    (.eff [] (some 6) (.call 17) [(.t 5)] []),
    (.chk [] (.c1 .not (.t 6))),
    (.set 3 (.o1 .not (.t 6)))]) (.cond 3 (.seq (.sts [(.set 2 (.c (.int .i64 14)))]) .ret) (.seq (.sts [(.chk [] (.c1 (.fld 1) (.t 1))),
    (.chk [] (.c1 .ld1 (.o1 (.fld 1) (.t 1)))),
    (.chk [] (.c1 .len (.o1 .ld1 (.o1 (.fld 1) (.t 1))))),
    (.chk [] (.c2 (.bin .gtr) (.o1 .len (.o1 .ld1 (.o1 (.fld 1) (.t 1)))) (.c (.int .i64 8)))),
    (.set 8 (.o2 (.bin .gtr) (.o1 .len (.o1 .ld1 (.o1 (.fld 1) (.t 1)))) (.c (.int .i64 8))))]) (.cond 8 (.seq (.sts [(.set 2 (.c (.int .i64 22)))]) .ret) .skip))))) (.seq (.sts [(.chk [] (.c1 (.fld 1) (.t 1))),
    (.chk [] (.c1 .ld1 (.o1 (.fld 1) (.t 1)))),
    (.set 14 (.o1 .ld1 (.o1 (.fld 1) (.t 1)))),
    (.eff [] (some 15) (.call 18) [(.t 14), (.c (.func (.func 19) #[] #[]))] []),
    (.set 2 (.t 15))]) .ret)))
def prWellAtom_E : Res := [(none, (.t 2))]
theorem prWellAtom_C : Try.f11.body.bind (comp Try.prog prWellAtom_M Try.f11.ntmps) = some prWellAtom_S := by kernel_rfl
theorem prWellAtom_R : resE Try.prog prWellAtom_M Try.f11.results.toList = some prWellAtom_E := by kernel_rfl
theorem prWellAtom_H (G : Ctr) (hG : GOk Try.prog G) (a0 : Value) {h : H} {K : Value → H → Prop} {KP : List PanicEntry → H → Prop} (Hw : wpS G prWellAtom_S (retQ prWellAtom_E (callK K KP)) (envOf 0 [a0] env0) h) : HCX Try.prog 11 [a0] h K KP :=
  .inl ⟨by kernel_rfl, hc_of mixed hG Try.func11 prWellAtom_C prWellAtom_R (of_decide_eq_true (by kernel_rfl)) Hw⟩
def prWellLiteral_M : Nat → Bool := fun i => Nat.testBit 281475048013879 i
def prWellLiteral_S : S :=
  (.seq (.sts [(.eff [] (some 1) (.box 41) [(.t 0)] []),
    (.set 2 (.c (.int .i64 0)))]) (.seq (.seq (.sts [(.chk [] (.c1 (.fld 0) (.t 1))),
    (.chk [] (.c1 .ld1 (.o1 (.fld 0) (.t 1)))),
    (.set 4 (.o1 .ld1 (.o1 (.fld 0) (.t 1))))]) (.block 0 (.seq (.seq (.sts [(.chk [] (.c2 (.bin .eql) (.t 4) (.c (.int .i64 1)))),
    (.set 5 (.o2 (.bin .eql) (.t 4) (.c (.int .i64 1))))]) (.cond 5 .skip (.sts [(.chk [] (.c2 (.bin .eql) (.t 4) (.c (.int .i64 2)))),
    (.set 5 (.o2 (.bin .eql) (.t 4) (.c (.int .i64 2))))]))) (.cond 5 (.seq (.seq (.sts [(.chk [] (.c1 (.fld 4) (.t 1))),
    (.chk [] (.c1 .ld1 (.o1 (.fld 4) (.t 1)))),
    (.chk [] (.c2 (.bin .neq) (.o1 .ld1 (.o1 (.fld 4) (.t 1))) (.c (.int .i64 0)))),
    (.chk [((.o2 (.bin .neq) (.o1 .ld1 (.o1 (.fld 4) (.t 1))) (.c (.int .i64 0))), false)] (.c1 (.fld 5) (.t 1))),
    (.chk [((.o2 (.bin .neq) (.o1 .ld1 (.o1 (.fld 4) (.t 1))) (.c (.int .i64 0))), false)] (.c1 (.ldn 4) (.o1 (.fld 5) (.t 1)))),
    (.set 13 (.o1 (.ldn 4) (.o1 (.fld 5) (.t 1)))),
    (.set 11 (.o2 (.bin .neq) (.o1 .ld1 (.o1 (.fld 4) (.t 1))) (.c (.int .i64 0)))),
    (.eff [((.t 11), false)] (some 14) (.call 20) [(.t 13)] []),
    (.chk [((.t 11), false)] (.c1 .not (.t 14))),
    (.chk [] (.c3 .pick (.t 11) (.c (.bool true)) (.o1 .not (.t 14)))),
    (.chk [((.o3 .pick (.t 11) (.c (.bool true)) (.o1 .not (.t 14))), false)] (.c1 (.fld 9) (.t 1))),
    (.chk [((.o3 .pick (.t 11) (.c (.bool true)) (.o1 .not (.t 14))), false)] (.c1 (.ldn 4) (.o1 (.fld 9) (.t 1)))),
    (.set 19 (.o1 (.ldn 4) (.o1 (.fld 9) (.t 1)))),
    (.eff [((.o3 .pick (.t 11) (.c (.bool true)) (.o1 .not (.t 14))), false)] (some 20) (.call 20) [(.t 19)] []),
    (.chk [((.o3 .pick (.t 11) (.c (.bool true)) (.o1 .not (.t 14))), false)] (.c1 .not (.t 20))),
    (.chk [] (.c3 .pick (.o3 .pick (.t 11) (.c (.bool true)) (.o1 .not (.t 14))) (.c (.bool true)) (.o1 .not (.t 20)))),
    (.set 22 (.o3 .pick (.o3 .pick (.t 11) (.c (.bool true)) (.o1 .not (.t 14))) (.c (.bool true)) (.o1 .not (.t 20))))]) (.cond 22 (.seq (.sts [(.set 2 (.c (.int .i64 2)))]) .ret) .skip)) (.seq (.sts [(.chk [] (.c1 (.fld 1) (.t 1))),
    (.chk [] (.c1 (.ldn 3) (.o1 (.fld 1) (.t 1)))),
    (.set 24 (.o1 (.ldn 3) (.o1 (.fld 1) (.t 1)))),
    (.eff [] (some 25) (.call 11) [(.t 24)] []),
    (.set 2 (.t 25))]) .ret)) (.seq (.sts [(.chk [] (.c2 (.bin .eql) (.t 4) (.c (.int .i64 3)))),
    (.set 26 (.o2 (.bin .eql) (.t 4) (.c (.int .i64 3))))]) (.cond 26 (.seq (.seq (.sts [(.chk [] (.c1 (.fld 4) (.t 1))),
    (.chk [] (.c1 .ld1 (.o1 (.fld 4) (.t 1)))),
    (.chk [] (.c2 (.bin .lss) (.o1 .ld1 (.o1 (.fld 4) (.t 1))) (.c (.int .i64 1)))),
    (.chk [((.o2 (.bin .lss) (.o1 .ld1 (.o1 (.fld 4) (.t 1))) (.c (.int .i64 1))), false)] (.c1 (.fld 4) (.t 1))),
    (.chk [((.o2 (.bin .lss) (.o1 .ld1 (.o1 (.fld 4) (.t 1))) (.c (.int .i64 1))), false)] (.c1 .ld1 (.o1 (.fld 4) (.t 1)))),
    (.chk [((.o2 (.bin .lss) (.o1 .ld1 (.o1 (.fld 4) (.t 1))) (.c (.int .i64 1))), false)] (.c2 (.bin .gtr) (.o1 .ld1 (.o1 (.fld 4) (.t 1))) (.c (.int .i64 6)))),
    (.chk [] (.c3 .pick (.o2 (.bin .lss) (.o1 .ld1 (.o1 (.fld 4) (.t 1))) (.c (.int .i64 1))) (.c (.bool true)) (.o2 (.bin .gtr) (.o1 .ld1 (.o1 (.fld 4) (.t 1))) (.c (.int .i64 6))))),
    (.chk [((.o3 .pick (.o2 (.bin .lss) (.o1 .ld1 (.o1 (.fld 4) (.t 1))) (.c (.int .i64 1))) (.c (.bool true)) (.o2 (.bin .gtr) (.o1 .ld1 (.o1 (.fld 4) (.t 1))) (.c (.int .i64 6)))), false)] (.c1 (.fld 1) (.t 1))),
    (.chk [((.o3 .pick (.o2 (.bin .lss) (.o1 .ld1 (.o1 (.fld 4) (.t 1))) (.c (.int .i64 1))) (.c (.bool true)) (.o2 (.bin .gtr) (.o1 .ld1 (.o1 (.fld 4) (.t 1))) (.c (.int .i64 6)))), false)] (.c1 (.fld 0) (.o1 (.fld 1) (.t 1)))),
    (.chk [((.o3 .pick (.o2 (.bin .lss) (.o1 .ld1 (.o1 (.fld 4) (.t 1))) (.c (.int .i64 1))) (.c (.bool true)) (.o2 (.bin .gtr) (.o1 .ld1 (.o1 (.fld 4) (.t 1))) (.c (.int .i64 6)))), false)] (.c1 .ld1 (.o1 (.fld 0) (.o1 (.fld 1) (.t 1))))),
    (.chk [((.o3 .pick (.o2 (.bin .lss) (.o1 .ld1 (.o1 (.fld 4) (.t 1))) (.c (.int .i64 1))) (.c (.bool true)) (.o2 (.bin .gtr) (.o1 .ld1 (.o1 (.fld 4) (.t 1))) (.c (.int .i64 6)))), false)] (.c2 (.bin .neq) (.o1 .ld1 (.o1 (.fld 0) (.o1 (.fld 1) (.t 1)))) (.c (str [])))),
    (.chk [] (.c3 .pick (.o3 .pick (.o2 (.bin .lss) (.o1 .ld1 (.o1 (.fld 4) (.t 1))) (.c (.int .i64 1))) (.c (.bool true)) (.o2 (.bin .gtr) (.o1 .ld1 (.o1 (.fld 4) (.t 1))) (.c (.int .i64 6)))) (.c (.bool true)) (.o2 (.bin .neq) (.o1 .ld1 (.o1 (.fld 0) (.o1 (.fld 1) (.t 1)))) (.c (str []))))),
    (.chk [((.o3 .pick (.o3 .pick (.o2 (.bin .lss) (.o1 .ld1 (.o1 (.fld 4) (.t 1))) (.c (.int .i64 1))) (.c (.bool true)) (.o2 (.bin .gtr) (.o1 .ld1 (.o1 (.fld 4) (.t 1))) (.c (.int .i64 6)))) (.c (.bool true)) (.o2 (.bin .neq) (.o1 .ld1 (.o1 (.fld 0) (.o1 (.fld 1) (.t 1)))) (.c (str [])))), false)] (.c1 (.fld 1) (.t 1))),
    (.chk [((.o3 .pick (.o3 .pick (.o2 (.bin .lss) (.o1 .ld1 (.o1 (.fld 4) (.t 1))) (.c (.int .i64 1))) (.c (.bool true)) (.o2 (.bin .gtr) (.o1 .ld1 (.o1 (.fld 4) (.t 1))) (.c (.int .i64 6)))) (.c (.bool true)) (.o2 (.bin .neq) (.o1 .ld1 (.o1 (.fld 0) (.o1 (.fld 1) (.t 1)))) (.c (str [])))), false)] (.c1 (.fld 1) (.o1 (.fld 1) (.t 1)))),
    (.chk [((.o3 .pick (.o3 .pick (.o2 (.bin .lss) (.o1 .ld1 (.o1 (.fld 4) (.t 1))) (.c (.int .i64 1))) (.c (.bool true)) (.o2 (.bin .gtr) (.o1 .ld1 (.o1 (.fld 4) (.t 1))) (.c (.int .i64 6)))) (.c (.bool true)) (.o2 (.bin .neq) (.o1 .ld1 (.o1 (.fld 0) (.o1 (.fld 1) (.t 1)))) (.c (str [])))), false)] (.c1 .ld1 (.o1 (.fld 1) (.o1 (.fld 1) (.t 1))))),
    (.chk [((.o3 .pick (.o3 .pick (.o2 (.bin .lss) (.o1 .ld1 (.o1 (.fld 4) (.t 1))) (.c (.int .i64 1))) (.c (.bool true)) (.o2 (.bin .gtr) (.o1 .ld1 (.o1 (.fld 4) (.t 1))) (.c (.int .i64 6)))) (.c (.bool true)) (.o2 (.bin .neq) (.o1 .ld1 (.o1 (.fld 0) (.o1 (.fld 1) (.t 1)))) (.c (str [])))), false)] (.c1 .len (.o1 .ld1 (.o1 (.fld 1) (.o1 (.fld 1) (.t 1)))))),
    (.chk [((.o3 .pick (.o3 .pick (.o2 (.bin .lss) (.o1 .ld1 (.o1 (.fld 4) (.t 1))) (.c (.int .i64 1))) (.c (.bool true)) (.o2 (.bin .gtr) (.o1 .ld1 (.o1 (.fld 4) (.t 1))) (.c (.int .i64 6)))) (.c (.bool true)) (.o2 (.bin .neq) (.o1 .ld1 (.o1 (.fld 0) (.o1 (.fld 1) (.t 1)))) (.c (str [])))), false)] (.c2 (.bin .gtr) (.o1 .len (.o1 .ld1 (.o1 (.fld 1) (.o1 (.fld 1) (.t 1))))) (.c (.int .i64 0)))),
    (.chk [] (.c3 .pick (.o3 .pick (.o3 .pick (.o2 (.bin .lss) (.o1 .ld1 (.o1 (.fld 4) (.t 1))) (.c (.int .i64 1))) (.c (.bool true)) (.o2 (.bin .gtr) (.o1 .ld1 (.o1 (.fld 4) (.t 1))) (.c (.int .i64 6)))) (.c (.bool true)) (.o2 (.bin .neq) (.o1 .ld1 (.o1 (.fld 0) (.o1 (.fld 1) (.t 1)))) (.c (str [])))) (.c (.bool true)) (.o2 (.bin .gtr) (.o1 .len (.o1 .ld1 (.o1 (.fld 1) (.o1 (.fld 1) (.t 1))))) (.c (.int .i64 0))))),
    (.set 48 (.o3 .pick (.o3 .pick (.o3 .pick (.o2 (.bin .lss) (.o1 .ld1 (.o1 (.fld 4) (.t 1))) (.c (.int .i64 1))) (.c (.bool true)) (.o2 (.bin .gtr) (.o1 .ld1 (.o1 (.fld 4) (.t 1))) (.c (.int .i64 6)))) (.c (.bool true)) (.o2 (.bin .neq) (.o1 .ld1 (.o1 (.fld 0) (.o1 (.fld 1) (.t 1)))) (.c (str [])))) (.c (.bool true)) (.o2 (.bin .gtr) (.o1 .len (.o1 .ld1 (.o1 (.fld 1) (.o1 (.fld 1) (.t 1))))) (.c (.int .i64 0)))))]) (.cond 48 (.seq (.sts [(.set 2 (.c (.int .i64 2)))]) .ret) .skip)) (.seq (.sts [(.chk [] (.c1 (.fld 5) (.t 1))),
    (.chk [] (.c1 (.ldn 4) (.o1 (.fld 5) (.t 1)))),
    (.chk [] (.c1 (.fld 9) (.t 1))),
    (.chk [] (.c1 (.ldn 4) (.o1 (.fld 9) (.t 1)))),
    (.set 52 (.o1 (.ldn 4) (.o1 (.fld 9) (.t 1)))),
    (.set 50 (.o1 (.ldn 4) (.o1 (.fld 5) (.t 1)))),
    (.eff [] (some 53) (.bsl 39 4 2 [(.int .i64 0), (.int .i64 0), (str []), (.int .i64 0), (.int .i64 0), (.int .i64 0), (str []), (.int .i64 0)] [0, 1]) [(.t 50), (.t 52)] []),
    (.eff [] (some 54) (.call 18) [(.t 53), (.c (.func (.func 19) #[] #[]))] []),
    (.set 2 (.t 54))]) .ret)) .skip)))))) (.seq (.sts [(.set 2 (.c (.int .i64 2)))]) .ret)))
def prWellLiteral_E : Res := [(none, (.t 2))]
theorem prWellLiteral_C : Try.f13.body.bind (comp Try.prog prWellLiteral_M Try.f13.ntmps) = some prWellLiteral_S := by kernel_rfl
theorem prWellLiteral_R : resE Try.prog prWellLiteral_M Try.f13.results.toList = some prWellLiteral_E := by kernel_rfl
theorem prWellLiteral_H (G : Ctr) (hG : GOk Try.prog G) (a0 : Value) {h : H} {K : Value → H → Prop} {KP : List PanicEntry → H → Prop} (Hw : wpS G prWellLiteral_S (retQ prWellLiteral_E (callK K KP)) (envOf 0 [a0] env0) h) : HCX Try.prog 13 [a0] h K KP :=
  .inl ⟨by kernel_rfl, hc_of mixed hG Try.func13 prWellLiteral_C prWellLiteral_R (of_decide_eq_true (by kernel_rfl)) Hw⟩
def prFirstL_M : Nat → Bool := fun i => Nat.testBit 266195 i
def prFirstL_L1 : S :=
  (.seq (.sts [(.chk [] (.c2 (.bin .lss) (.t 10) (.t 9))),
    (.set 11 (.o2 (.bin .lss) (.t 10) (.t 9)))]) (.seq (.cond 11 .skip (.exit 0)) (.seq (.block 1 (.seq (.sts [(.chk [] (.c2 (.idxA 14) (.t 8) (.t 10))),
    (.chk [] (.c1 (.ldn 14) (.o2 (.idxA 14) (.t 8) (.t 10)))),
    (.set 13 (.o1 (.ldn 14) (.o2 (.idxA 14) (.t 8) (.t 10)))),
    (.eff [] (some 6) (.alloc 41 #[(.int .i64 0), (str []), (.slice none 0 0), (.int .i64 0), (.int .i64 0), (.int .i64 0), (.int .i64 0), (str []), (.int .i64 0), (.int .i64 0), (.int .i64 0), (str []), (.int .i64 0), (.int .i64 0)]) [] []),
    (.eff [] none (.store 14) [(.t 6), (.t 13)] [])]) (.seq (.sts [(.chk [] (.c1 (.ldn 14) (.t 6))),
    (.set 15 (.o1 (.ldn 14) (.t 6))),
    (.eff [] (some 16) .callv [(.t 1), (.t 15)] []),
    (.set 7 (.t 16))]) (.seq (.sts [(.chk [] (.c2 (.bin .neq) (.t 7) (.c (.int .i64 0)))),
    (.set 18 (.o2 (.bin .neq) (.t 7) (.c (.int .i64 0))))]) (.cond 18 (.seq (.sts [(.set 4 (.t 7))]) .ret) .skip))))) (.sts [(.chk [] (.c2 (.bin .add) (.t 10) (.c (.int .i64 1)))),
    (.set 20 (.o2 (.bin .add) (.t 10) (.c (.int .i64 1)))),
    (.set 10 (.t 20))]))))
def prFirstL_S : S :=
  (.seq (.sts [(.set 4 (.c (.int .i64 0)))]) (.seq (.seq (.sts [(.set 8 (.t 0)),
    (.chk [] (.c1 .len (.t 8))),
    (.set 9 (.o1 .len (.t 8))),
    (.set 10 (.c (.int .i64 0)))]) (.block 0 (.loop prFirstL_L1))) (.seq (.sts [(.set 4 (.c (.int .i64 0)))]) .ret)))
def prFirstL_E : Res := [(none, (.t 4))]
theorem prFirstL_C : Try.f12.body.bind (comp Try.prog prFirstL_M Try.f12.ntmps) = some prFirstL_S := by kernel_rfl
theorem prFirstL_R : resE Try.prog prFirstL_M Try.f12.results.toList = some prFirstL_E := by kernel_rfl
theorem prFirstL_H (G : Ctr) (hG : GOk Try.prog G) (a0 : Value) (a1 : Value) {h : H} {K : Value → H → Prop} {KP : List PanicEntry → H → Prop} (Hw : wpS G prFirstL_S (retQ prFirstL_E (callK K KP)) (envOf 0 [a0, a1] env0) h) : HCX Try.prog 12 [a0, a1] h K KP :=
  .inl ⟨by kernel_rfl, hc_of mixed hG Try.func12 prFirstL_C prFirstL_R (of_decide_eq_true (by kernel_rfl)) Hw⟩
def prWellClause_M : Nat → Bool := fun i => Nat.testBit 8463 i
def prWellClause_S : S :=
  (.seq (.sts [(.eff [] (some 1) (.box 34) [(.t 0)] []),
    (.set 2 (.c (.int .i64 0)))]) (.seq (.seq (.sts [(.chk [] (.c1 (.fld 0) (.t 1))),
    (.chk [] (.c1 (.ldn 3) (.o1 (.fld 0) (.t 1)))),
    (.set 5 (.o1 (.ldn 3) (.o1 (.fld 0) (.t 1)))),
    (.eff [] (some 6) (.call 11) [(.t 5)] []),
    (.set 3 (.t 6))]) (.seq (.sts [(.chk [] (.c2 (.bin .neq) (.t 3) (.c (.int .i64 0)))),
    (.set 8 (.o2 (.bin .neq) (.t 3) (.c (.int .i64 0))))]) (.cond 8 (.seq (.sts [(.set 2 (.t 3))]) .ret) .skip))) (.seq (.seq (.sts [(.chk [] (.c1 (.fld 3) (.t 1))),
    (.chk [] (.c1 .ld1 (.o1 (.fld 3) (.t 1)))),
    (.chk [] (.c1 .len (.o1 .ld1 (.o1 (.fld 3) (.t 1))))),
    (.chk [] (.c2 (.bin .gtr) (.o1 .len (.o1 .ld1 (.o1 (.fld 3) (.t 1)))) (.c (.int .i64 16)))),
    (.set 13 (.o2 (.bin .gtr) (.o1 .len (.o1 .ld1 (.o1 (.fld 3) (.t 1)))) (.c (.int .i64 16))))]) (.cond 13 (.seq (.sts [(.set 2 (.c (.int .i64 23)))]) .ret) .skip)) (.seq (.sts [(.chk [] (.c1 (.fld 3) (.t 1))),
    (.chk [] (.c1 .ld1 (.o1 (.fld 3) (.t 1)))),
    (.set 15 (.o1 .ld1 (.o1 (.fld 3) (.t 1)))),
    (.eff [] (some 16) (.call 12) [(.t 15), (.c (.func (.func 13) #[] #[]))] []),
    (.set 2 (.t 16))]) .ret))))
def prWellClause_E : Res := [(none, (.t 2))]
theorem prWellClause_C : Try.f8.body.bind (comp Try.prog prWellClause_M Try.f8.ntmps) = some prWellClause_S := by kernel_rfl
theorem prWellClause_R : resE Try.prog prWellClause_M Try.f8.results.toList = some prWellClause_E := by kernel_rfl
theorem prWellClause_H (G : Ctr) (hG : GOk Try.prog G) (a0 : Value) {h : H} {K : Value → H → Prop} {KP : List PanicEntry → H → Prop} (Hw : wpS G prWellClause_S (retQ prWellClause_E (callK K KP)) (envOf 0 [a0] env0) h) : HCX Try.prog 8 [a0] h K KP :=
  .inl ⟨by kernel_rfl, hc_of mixed hG Try.func8 prWellClause_C prWellClause_R (of_decide_eq_true (by kernel_rfl)) Hw⟩
def prFirstC_M : Nat → Bool := fun i => Nat.testBit 266195 i
def prFirstC_L1 : S :=
  (.seq (.sts [(.chk [] (.c2 (.bin .lss) (.t 10) (.t 9))),
    (.set 11 (.o2 (.bin .lss) (.t 10) (.t 9)))]) (.seq (.cond 11 .skip (.exit 0)) (.seq (.block 1 (.seq (.sts [(.chk [] (.c2 (.idxA 4) (.t 8) (.t 10))),
    (.chk [] (.c1 (.ldn 4) (.o2 (.idxA 4) (.t 8) (.t 10)))),
    (.set 13 (.o1 (.ldn 4) (.o2 (.idxA 4) (.t 8) (.t 10)))),
    (.eff [] (some 6) (.alloc 34 #[(str []), (.slice none 0 0), (.int .i64 0), (.slice none 0 0)]) [] []),
    (.eff [] none (.store 4) [(.t 6), (.t 13)] [])]) (.seq (.sts [(.chk [] (.c1 (.ldn 4) (.t 6))),
    (.set 15 (.o1 (.ldn 4) (.t 6))),
    (.eff [] (some 16) .callv [(.t 1), (.t 15)] []),
    (.set 7 (.t 16))]) (.seq (.sts [(.chk [] (.c2 (.bin .neq) (.t 7) (.c (.int .i64 0)))),
    (.set 18 (.o2 (.bin .neq) (.t 7) (.c (.int .i64 0))))]) (.cond 18 (.seq (.sts [(.set 4 (.t 7))]) .ret) .skip))))) (.sts [(.chk [] (.c2 (.bin .add) (.t 10) (.c (.int .i64 1)))),
    (.set 20 (.o2 (.bin .add) (.t 10) (.c (.int .i64 1)))),
    (.set 10 (.t 20))]))))
def prFirstC_S : S :=
  (.seq (.sts [(.set 4 (.c (.int .i64 0)))]) (.seq (.seq (.sts [(.set 8 (.t 0)),
    (.chk [] (.c1 .len (.t 8))),
    (.set 9 (.o1 .len (.t 8))),
    (.set 10 (.c (.int .i64 0)))]) (.block 0 (.loop prFirstC_L1))) (.seq (.sts [(.set 4 (.c (.int .i64 0)))]) .ret)))
def prFirstC_E : Res := [(none, (.t 4))]
theorem prFirstC_C : Try.f7.body.bind (comp Try.prog prFirstC_M Try.f7.ntmps) = some prFirstC_S := by kernel_rfl
theorem prFirstC_R : resE Try.prog prFirstC_M Try.f7.results.toList = some prFirstC_E := by kernel_rfl
theorem prFirstC_H (G : Ctr) (hG : GOk Try.prog G) (a0 : Value) (a1 : Value) {h : H} {K : Value → H → Prop} {KP : List PanicEntry → H → Prop} (Hw : wpS G prFirstC_S (retQ prFirstC_E (callK K KP)) (envOf 0 [a0, a1] env0) h) : HCX Try.prog 7 [a0, a1] h K KP :=
  .inl ⟨by kernel_rfl, hc_of mixed hG Try.func7 prFirstC_C prFirstC_R (of_decide_eq_true (by kernel_rfl)) Hw⟩
def prWell_M : Nat → Bool := fun i => Nat.testBit 71 i
def prWell_S : S :=
  (.seq (.sts [(.eff [] (some 1) (.box 24) [(.t 0)] []),
    (.set 2 (.c (.int .i64 0)))]) (.seq (.seq (.sts [(.chk [] (.c1 (.fld 0) (.t 1))),
    (.chk [] (.c1 .ld1 (.o1 (.fld 0) (.t 1)))),
    (.chk [] (.c1 .len (.o1 .ld1 (.o1 (.fld 0) (.t 1))))),
    (.chk [] (.c2 (.bin .gtr) (.o1 .len (.o1 .ld1 (.o1 (.fld 0) (.t 1)))) (.c (.int .i64 512)))),
    (.set 6 (.o2 (.bin .gtr) (.o1 .len (.o1 .ld1 (.o1 (.fld 0) (.t 1)))) (.c (.int .i64 512))))]) (.cond 6 (.seq (.sts [(.set 2 (.c (.int .i64 24)))]) .ret) .skip)) (.seq (.sts [(.chk [] (.c1 (.fld 0) (.t 1))),
    (.chk [] (.c1 .ld1 (.o1 (.fld 0) (.t 1)))),
    (.set 8 (.o1 .ld1 (.o1 (.fld 0) (.t 1)))),
    (.eff [] (some 9) (.call 7) [(.t 8), (.c (.func (.func 8) #[] #[]))] []),
    (.set 2 (.t 9))]) .ret)))
def prWell_E : Res := [(none, (.t 2))]
theorem prWell_C : Try.f5.body.bind (comp Try.prog prWell_M Try.f5.ntmps) = some prWell_S := by kernel_rfl
theorem prWell_R : resE Try.prog prWell_M Try.f5.results.toList = some prWell_E := by kernel_rfl
theorem prWell_H (G : Ctr) (hG : GOk Try.prog G) (a0 : Value) {h : H} {K : Value → H → Prop} {KP : List PanicEntry → H → Prop} (Hw : wpS G prWell_S (retQ prWell_E (callK K KP)) (envOf 0 [a0] env0) h) : HCX Try.prog 5 [a0] h K KP :=
  .inl ⟨by kernel_rfl, hc_of mixed hG Try.func5 prWell_C prWell_R (of_decide_eq_true (by kernel_rfl)) Hw⟩
def r1lower_M : Nat → Bool := fun i => Nat.testBit 5 i
def r1lower_S : S :=
  (.seq (.sts [(.set 2 (.c (.bool false)))]) (.seq (.sts [(.chk [] (.c2 (.bin .geq) (.t 0) (.c (.int .u8 97)))),
    (.chk [((.o2 (.bin .geq) (.t 0) (.c (.int .u8 97))), true)] (.c2 (.bin .leq) (.t 0) (.c (.int .u8 122)))),
    (.chk [] (.c3 .pick (.o2 (.bin .geq) (.t 0) (.c (.int .u8 97))) (.o2 (.bin .leq) (.t 0) (.c (.int .u8 122))) (.c (.bool false)))),
    (.set 2 (.o3 .pick (.o2 (.bin .geq) (.t 0) (.c (.int .u8 97))) (.o2 (.bin .leq) (.t 0) (.c (.int .u8 122))) (.c (.bool false))))]) .ret))
def r1lower_E : Res := [(none, (.t 2))]
theorem r1lower_C : Try.f21.body.bind (comp Try.prog r1lower_M Try.f21.ntmps) = some r1lower_S := by kernel_rfl
theorem r1lower_R : resE Try.prog r1lower_M Try.f21.results.toList = some r1lower_E := by kernel_rfl
theorem r1lower_H (G : Ctr) (hG : GOk Try.prog G) (a0 : Value) {h : H} {K : Value → H → Prop} {KP : List PanicEntry → H → Prop} (Hw : wpS G r1lower_S (retQ r1lower_E (callK K KP)) (envOf 0 [a0] env0) h) : HCX Try.prog 21 [a0] h K KP :=
  .inl ⟨by kernel_rfl, hc_of mixed hG Try.func21 r1lower_C r1lower_R (of_decide_eq_true (by kernel_rfl)) Hw⟩
def r1upper_M : Nat → Bool := fun i => Nat.testBit 5 i
def r1upper_S : S :=
  (.seq (.sts [(.set 2 (.c (.bool false)))]) (.seq (.sts [(.chk [] (.c2 (.bin .geq) (.t 0) (.c (.int .u8 65)))),
    (.chk [((.o2 (.bin .geq) (.t 0) (.c (.int .u8 65))), true)] (.c2 (.bin .leq) (.t 0) (.c (.int .u8 90)))),
    (.chk [] (.c3 .pick (.o2 (.bin .geq) (.t 0) (.c (.int .u8 65))) (.o2 (.bin .leq) (.t 0) (.c (.int .u8 90))) (.c (.bool false)))),
    (.set 2 (.o3 .pick (.o2 (.bin .geq) (.t 0) (.c (.int .u8 65))) (.o2 (.bin .leq) (.t 0) (.c (.int .u8 90))) (.c (.bool false))))]) .ret))
def r1upper_E : Res := [(none, (.t 2))]
theorem r1upper_C : Try.f30.body.bind (comp Try.prog r1upper_M Try.f30.ntmps) = some r1upper_S := by kernel_rfl
theorem r1upper_R : resE Try.prog r1upper_M Try.f30.results.toList = some r1upper_E := by kernel_rfl
theorem r1upper_H (G : Ctr) (hG : GOk Try.prog G) (a0 : Value) {h : H} {K : Value → H → Prop} {KP : List PanicEntry → H → Prop} (Hw : wpS G r1upper_S (retQ r1upper_E (callK K KP)) (envOf 0 [a0] env0) h) : HCX Try.prog 30 [a0] h K KP :=
  .inl ⟨by kernel_rfl, hc_of mixed hG Try.func30 r1upper_C r1upper_R (of_decide_eq_true (by kernel_rfl)) Hw⟩
def r1digit_M : Nat → Bool := fun i => Nat.testBit 5 i
def r1digit_S : S :=
  (.seq (.sts [(.set 2 (.c (.bool false)))]) (.seq (.sts [(.chk [] (.c2 (.bin .geq) (.t 0) (.c (.int .u8 48)))),
    (.chk [((.o2 (.bin .geq) (.t 0) (.c (.int .u8 48))), true)] (.c2 (.bin .leq) (.t 0) (.c (.int .u8 57)))),
    (.chk [] (.c3 .pick (.o2 (.bin .geq) (.t 0) (.c (.int .u8 48))) (.o2 (.bin .leq) (.t 0) (.c (.int .u8 57))) (.c (.bool false)))),
    (.set 2 (.o3 .pick (.o2 (.bin .geq) (.t 0) (.c (.int .u8 48))) (.o2 (.bin .leq) (.t 0) (.c (.int .u8 57))) (.c (.bool false))))]) .ret))
def r1digit_E : Res := [(none, (.t 2))]
theorem r1digit_C : Try.f31.body.bind (comp Try.prog r1digit_M Try.f31.ntmps) = some r1digit_S := by kernel_rfl
theorem r1digit_R : resE Try.prog r1digit_M Try.f31.results.toList = some r1digit_E := by kernel_rfl
theorem r1digit_H (G : Ctr) (hG : GOk Try.prog G) (a0 : Value) {h : H} {K : Value → H → Prop} {KP : List PanicEntry → H → Prop} (Hw : wpS G r1digit_S (retQ r1digit_E (callK K KP)) (envOf 0 [a0] env0) h) : HCX Try.prog 31 [a0] h K KP :=
  .inl ⟨by kernel_rfl, hc_of mixed hG Try.func31 r1digit_C r1digit_R (of_decide_eq_true (by kernel_rfl)) Hw⟩
def r1tail_M : Nat → Bool := fun i => Nat.testBit 17179869325 i
def r1tail_L1 : S :=
  (.seq (.seq (.sts [(.chk [] (.c1 .lens (.t 0))),
    (.chk [] (.c2 (.bin .lss) (.t 3) (.o1 .lens (.t 0)))),
    (.set 7 (.o2 (.bin .lss) (.t 3) (.o1 .lens (.t 0))))]) (.cond 7 .skip (.exit 0))) (.seq (.block 1 (.seq (.sts [(.chk [] (.c2 .idxS (.t 0) (.t 3))),
    (.eff [] (some 13) (.call 21) [(.o2 .idxS (.t 0) (.t 3))] []),
    (.chk [] (.c1 .not (.t 13))),
    (.chk [((.o1 .not (.t 13)), true)] (.c2 .idxS (.t 0) (.t 3))),
    (.eff [((.o1 .not (.t 13)), true)] (some 19) (.call 30) [(.o2 .idxS (.t 0) (.t 3))] []),
    (.chk [((.o1 .not (.t 13)), true)] (.c1 .not (.t 19))),
    (.chk [] (.c3 .pick (.o1 .not (.t 13)) (.o1 .not (.t 19)) (.c (.bool false)))),
    (.chk [((.o3 .pick (.o1 .not (.t 13)) (.o1 .not (.t 19)) (.c (.bool false))), true)] (.c2 .idxS (.t 0) (.t 3))),
    (.eff [((.o3 .pick (.o1 .not (.t 13)) (.o1 .not (.t 19)) (.c (.bool false))), true)] (some 26) (.call 31) [(.o2 .idxS (.t 0) (.t 3))] []),
    (.chk [((.o3 .pick (.o1 .not (.t 13)) (.o1 .not (.t 19)) (.c (.bool false))), true)] (.c1 .not (.t 26))),
    (.chk [] (.c3 .pick (.o3 .pick (.o1 .not (.t 13)) (.o1 .not (.t 19)) (.c (.bool false))) (.o1 .not (.t 26)) (.c (.bool false)))),
    (.chk [((.o3 .pick (.o3 .pick (.o1 .not (.t 13)) (.o1 .not (.t 19)) (.c (.bool false))) (.o1 .not (.t 26)) (.c (.bool false))), true)] (.c2 .idxS (.t 0) (.t 3))),
    (.chk [((.o3 .pick (.o3 .pick (.o1 .not (.t 13)) (.o1 .not (.t 19)) (.c (.bool false))) (.o1 .not (.t 26)) (.c (.bool false))), true)] (.c2 (.bin .neq) (.o2 .idxS (.t 0) (.t 3)) (.c (.int .u8 95)))),
    (.chk [] (.c3 .pick (.o3 .pick (.o3 .pick (.o1 .not (.t 13)) (.o1 .not (.t 19)) (.c (.bool false))) (.o1 .not (.t 26)) (.c (.bool false))) (.o2 (.bin .neq) (.o2 .idxS (.t 0) (.t 3)) (.c (.int .u8 95))) (.c (.bool false)))),
    (.set 34 (.o3 .pick (.o3 .pick (.o3 .pick (.o1 .not (.t 13)) (.o1 .not (.t 19)) (.c (.bool false))) (.o1 .not (.t 26)) (.c (.bool false))) (.o2 (.bin .neq) (.o2 .idxS (.t 0) (.t 3)) (.c (.int .u8 95))) (.c (.bool false))))]) (.cond 34 (.seq (.sts [(.set 2 (.c (.bool false)))]) .ret) .skip))) (.sts [(.chk [] (.c2 (.bin .add) (.t 3) (.c (.int .i64 1)))),
    (.set 9 (.o2 (.bin .add) (.t 3) (.c (.int .i64 1)))),
    (.set 3 (.t 9))])))
def r1tail_S : S :=
  (.seq (.sts [(.set 2 (.c (.bool false)))]) (.seq (.seq (.sts [(.set 3 (.c (.int .i64 1)))]) (.block 0 (.loop r1tail_L1))) (.seq (.sts [(.set 2 (.c (.bool true)))]) .ret)))
def r1tail_E : Res := [(none, (.t 2))]
theorem r1tail_C : Try.f22.body.bind (comp Try.prog r1tail_M Try.f22.ntmps) = some r1tail_S := by kernel_rfl
theorem r1tail_R : resE Try.prog r1tail_M Try.f22.results.toList = some r1tail_E := by kernel_rfl
theorem r1tail_H (G : Ctr) (hG : GOk Try.prog G) (a0 : Value) {h : H} {K : Value → H → Prop} {KP : List PanicEntry → H → Prop} (Hw : wpS G r1tail_S (retQ r1tail_E (callK K KP)) (envOf 0 [a0] env0) h) : HCX Try.prog 22 [a0] h K KP :=
  .inl ⟨by kernel_rfl, hc_of mixed hG Try.func22 r1tail_C r1tail_R (of_decide_eq_true (by kernel_rfl)) Hw⟩
def r1IsName_M : Nat → Bool := fun i => Nat.testBit 16389 i
def r1IsName_S : S :=
  (.seq (.sts [(.set 2 (.c (.bool false)))]) (.seq (.seq (.sts [(.chk [] (.c1 .lens (.t 0))),
    (.chk [] (.c2 (.bin .lss) (.o1 .lens (.t 0)) (.c (.int .i64 1)))),
    (.chk [((.o2 (.bin .lss) (.o1 .lens (.t 0)) (.c (.int .i64 1))), false)] (.c1 .lens (.t 0))),
    (.chk [((.o2 (.bin .lss) (.o1 .lens (.t 0)) (.c (.int .i64 1))), false)] (.c2 (.bin .gtr) (.o1 .lens (.t 0)) (.c (.int .i64 64)))),
    (.chk [] (.c3 .pick (.o2 (.bin .lss) (.o1 .lens (.t 0)) (.c (.int .i64 1))) (.c (.bool true)) (.o2 (.bin .gtr) (.o1 .lens (.t 0)) (.c (.int .i64 64))))),
    (.chk [((.o3 .pick (.o2 (.bin .lss) (.o1 .lens (.t 0)) (.c (.int .i64 1))) (.c (.bool true)) (.o2 (.bin .gtr) (.o1 .lens (.t 0)) (.c (.int .i64 64)))), false)] (.c2 (.bin .eql) (.t 0) (.c (str [110, 111, 116])))),
    (.chk [] (.c3 .pick (.o3 .pick (.o2 (.bin .lss) (.o1 .lens (.t 0)) (.c (.int .i64 1))) (.c (.bool true)) (.o2 (.bin .gtr) (.o1 .lens (.t 0)) (.c (.int .i64 64)))) (.c (.bool true)) (.o2 (.bin .eql) (.t 0) (.c (str [110, 111, 116]))))),
    (.set 14 (.o3 .pick (.o3 .pick (.o2 (.bin .lss) (.o1 .lens (.t 0)) (.c (.int .i64 1))) (.c (.bool true)) (.o2 (.bin .gtr) (.o1 .lens (.t 0)) (.c (.int .i64 64)))) (.c (.bool true)) (.o2 (.bin .eql) (.t 0) (.c (str [110, 111, 116])))))]) (.cond 14 (.seq (.sts [(.set 2 (.c (.bool false)))]) .ret) .skip)) (.seq (.sts [(.chk [] (.c2 .idxS (.t 0) (.c (.int .i64 0)))),
    (.eff [] (some 17) (.call 21) [(.o2 .idxS (.t 0) (.c (.int .i64 0)))] []),
    (.eff [((.t 17), true)] (some 20) (.call 22) [(.t 0)] []),
    (.chk [] (.c3 .pick (.t 17) (.t 20) (.c (.bool false)))),
    (.set 2 (.o3 .pick (.t 17) (.t 20) (.c (.bool false))))]) .ret)))
def r1IsName_E : Res := [(none, (.t 2))]
theorem r1IsName_C : Try.f14.body.bind (comp Try.prog r1IsName_M Try.f14.ntmps) = some r1IsName_S := by kernel_rfl
theorem r1IsName_R : resE Try.prog r1IsName_M Try.f14.results.toList = some r1IsName_E := by kernel_rfl
theorem r1IsName_H (G : Ctr) (hG : GOk Try.prog G) (a0 : Value) {h : H} {K : Value → H → Prop} {KP : List PanicEntry → H → Prop} (Hw : wpS G r1IsName_S (retQ r1IsName_E (callK K KP)) (envOf 0 [a0] env0) h) : HCX Try.prog 14 [a0] h K KP :=
  .inl ⟨by kernel_rfl, hc_of mixed hG Try.func14 r1IsName_C r1IsName_R (of_decide_eq_true (by kernel_rfl)) Hw⟩
def r1IsVar_M : Nat → Bool := fun i => Nat.testBit 1029 i
def r1IsVar_S : S :=
  (.seq (.sts [(.set 2 (.c (.bool false)))]) (.seq (.seq (.sts [(.chk [] (.c1 .lens (.t 0))),
    (.chk [] (.c2 (.bin .lss) (.o1 .lens (.t 0)) (.c (.int .i64 1)))),
    (.chk [((.o2 (.bin .lss) (.o1 .lens (.t 0)) (.c (.int .i64 1))), false)] (.c1 .lens (.t 0))),
    (.chk [((.o2 (.bin .lss) (.o1 .lens (.t 0)) (.c (.int .i64 1))), false)] (.c2 (.bin .gtr) (.o1 .lens (.t 0)) (.c (.int .i64 64)))),
    (.chk [] (.c3 .pick (.o2 (.bin .lss) (.o1 .lens (.t 0)) (.c (.int .i64 1))) (.c (.bool true)) (.o2 (.bin .gtr) (.o1 .lens (.t 0)) (.c (.int .i64 64))))),
    (.set 10 (.o3 .pick (.o2 (.bin .lss) (.o1 .lens (.t 0)) (.c (.int .i64 1))) (.c (.bool true)) (.o2 (.bin .gtr) (.o1 .lens (.t 0)) (.c (.int .i64 64)))))]) (.cond 10 (.seq (.sts [(.set 2 (.c (.bool false)))]) .ret) .skip)) (.seq (.sts [(.chk [] (.c2 .idxS (.t 0) (.c (.int .i64 0)))),
    (.eff [] (some 13) (.call 30) [(.o2 .idxS (.t 0) (.c (.int .i64 0)))] []),
    (.chk [((.t 13), false)] (.c2 .idxS (.t 0) (.c (.int .i64 0)))),
    (.chk [((.t 13), false)] (.c2 (.bin .eql) (.o2 .idxS (.t 0) (.c (.int .i64 0))) (.c (.int .u8 95)))),
    (.chk [] (.c3 .pick (.t 13) (.c (.bool true)) (.o2 (.bin .eql) (.o2 .idxS (.t 0) (.c (.int .i64 0))) (.c (.int .u8 95))))),
    (.eff [((.o3 .pick (.t 13) (.c (.bool true)) (.o2 (.bin .eql) (.o2 .idxS (.t 0) (.c (.int .i64 0))) (.c (.int .u8 95)))), true)] (some 21) (.call 22) [(.t 0)] []),
    (.chk [] (.c3 .pick (.o3 .pick (.t 13) (.c (.bool true)) (.o2 (.bin .eql) (.o2 .idxS (.t 0) (.c (.int .i64 0))) (.c (.int .u8 95)))) (.t 21) (.c (.bool false)))),
    (.set 2 (.o3 .pick (.o3 .pick (.t 13) (.c (.bool true)) (.o2 (.bin .eql) (.o2 .idxS (.t 0) (.c (.int .i64 0))) (.c (.int .u8 95)))) (.t 21) (.c (.bool false))))]) .ret)))
def r1IsVar_E : Res := [(none, (.t 2))]
theorem r1IsVar_C : Try.f23.body.bind (comp Try.prog r1IsVar_M Try.f23.ntmps) = some r1IsVar_S := by kernel_rfl
theorem r1IsVar_R : resE Try.prog r1IsVar_M Try.f23.results.toList = some r1IsVar_E := by kernel_rfl
theorem r1IsVar_H (G : Ctr) (hG : GOk Try.prog G) (a0 : Value) {h : H} {K : Value → H → Prop} {KP : List PanicEntry → H → Prop} (Hw : wpS G r1IsVar_S (retQ r1IsVar_E (callK K KP)) (envOf 0 [a0] env0) h) : HCX Try.prog 23 [a0] h K KP :=
  .inl ⟨by kernel_rfl, hc_of mixed hG Try.func23 r1IsVar_C r1IsVar_R (of_decide_eq_true (by kernel_rfl)) Hw⟩
def r1Valid_M : Nat → Bool := fun i => Nat.testBit 1049655 i
def r1Valid_S : S :=
  (.seq (.sts [(.eff [] (some 1) (.box 50) [(.t 0)] []),
    (.set 2 (.c (.bool false)))]) (.seq (.seq (.sts [(.chk [] (.c1 (.fld 0) (.t 1))),
    (.chk [] (.c1 .ld1 (.o1 (.fld 0) (.t 1)))),
    (.set 4 (.o1 .ld1 (.o1 (.fld 0) (.t 1))))]) (.block 0 (.seq (.sts [(.chk [] (.c2 (.bin .eql) (.t 4) (.c (.int .i64 1)))),
    (.set 5 (.o2 (.bin .eql) (.t 4) (.c (.int .i64 1))))]) (.cond 5 (.seq (.sts [(.chk [] (.c1 (.fld 2) (.t 1))),
    (.chk [] (.c1 .ld1 (.o1 (.fld 2) (.t 1)))),
    (.chk [] (.c2 (.bin .eql) (.o1 .ld1 (.o1 (.fld 2) (.t 1))) (.c (str [])))),
    (.set 2 (.o2 (.bin .eql) (.o1 .ld1 (.o1 (.fld 2) (.t 1))) (.c (str []))))]) .ret) (.seq (.sts [(.chk [] (.c2 (.bin .eql) (.t 4) (.c (.int .i64 2)))),
    (.set 10 (.o2 (.bin .eql) (.t 4) (.c (.int .i64 2))))]) (.cond 10 (.seq (.sts [(.chk [] (.c1 (.fld 1) (.t 1))),
    (.chk [] (.c1 .ld1 (.o1 (.fld 1) (.t 1)))),
    (.chk [] (.c2 (.bin .eql) (.o1 .ld1 (.o1 (.fld 1) (.t 1))) (.c (.int .i64 0)))),
    (.chk [((.o2 (.bin .eql) (.o1 .ld1 (.o1 (.fld 1) (.t 1))) (.c (.int .i64 0))), true)] (.c1 (.fld 2) (.t 1))),
    (.chk [((.o2 (.bin .eql) (.o1 .ld1 (.o1 (.fld 1) (.t 1))) (.c (.int .i64 0))), true)] (.c1 .ld1 (.o1 (.fld 2) (.t 1)))),
    (.set 17 (.o1 .ld1 (.o1 (.fld 2) (.t 1)))),
    (.set 15 (.o2 (.bin .eql) (.o1 .ld1 (.o1 (.fld 1) (.t 1))) (.c (.int .i64 0)))),
    (.eff [((.t 15), true)] (some 18) (.call 14) [(.t 17)] []),
    (.chk [] (.c3 .pick (.t 15) (.t 18) (.c (.bool false)))),
    (.set 2 (.o3 .pick (.t 15) (.t 18) (.c (.bool false))))]) .ret) (.seq (.sts [(.chk [] (.c2 (.bin .eql) (.t 4) (.c (.int .i64 3)))),
    (.set 20 (.o2 (.bin .eql) (.t 4) (.c (.int .i64 3))))]) (.cond 20 (.seq (.sts [(.chk [] (.c1 (.fld 1) (.t 1))),
    (.chk [] (.c1 .ld1 (.o1 (.fld 1) (.t 1)))),
    (.chk [] (.c2 (.bin .eql) (.o1 .ld1 (.o1 (.fld 1) (.t 1))) (.c (.int .i64 0)))),
    (.chk [((.o2 (.bin .eql) (.o1 .ld1 (.o1 (.fld 1) (.t 1))) (.c (.int .i64 0))), true)] (.c1 (.fld 2) (.t 1))),
    (.chk [((.o2 (.bin .eql) (.o1 .ld1 (.o1 (.fld 1) (.t 1))) (.c (.int .i64 0))), true)] (.c1 .ld1 (.o1 (.fld 2) (.t 1)))),
    (.chk [((.o2 (.bin .eql) (.o1 .ld1 (.o1 (.fld 1) (.t 1))) (.c (.int .i64 0))), true)] (.c1 .lens (.o1 .ld1 (.o1 (.fld 2) (.t 1))))),
    (.chk [((.o2 (.bin .eql) (.o1 .ld1 (.o1 (.fld 1) (.t 1))) (.c (.int .i64 0))), true)] (.c2 (.bin .leq) (.o1 .lens (.o1 .ld1 (.o1 (.fld 2) (.t 1)))) (.c (.int .i64 255)))),
    (.chk [] (.c3 .pick (.o2 (.bin .eql) (.o1 .ld1 (.o1 (.fld 1) (.t 1))) (.c (.int .i64 0))) (.o2 (.bin .leq) (.o1 .lens (.o1 .ld1 (.o1 (.fld 2) (.t 1)))) (.c (.int .i64 255))) (.c (.bool false)))),
    (.set 2 (.o3 .pick (.o2 (.bin .eql) (.o1 .ld1 (.o1 (.fld 1) (.t 1))) (.c (.int .i64 0))) (.o2 (.bin .leq) (.o1 .lens (.o1 .ld1 (.o1 (.fld 2) (.t 1)))) (.c (.int .i64 255))) (.c (.bool false))))]) .ret) .skip)))))))) (.seq (.sts [(.set 2 (.c (.bool false)))]) .ret)))
def r1Valid_E : Res := [(none, (.t 2))]
theorem r1Valid_C : Try.f24.body.bind (comp Try.prog r1Valid_M Try.f24.ntmps) = some r1Valid_S := by kernel_rfl
theorem r1Valid_R : resE Try.prog r1Valid_M Try.f24.results.toList = some r1Valid_E := by kernel_rfl
theorem r1Valid_H (G : Ctr) (hG : GOk Try.prog G) (a0 : Value) {h : H} {K : Value → H → Prop} {KP : List PanicEntry → H → Prop} (Hw : wpS G r1Valid_S (retQ r1Valid_E (callK K KP)) (envOf 0 [a0] env0) h) : HCX Try.prog 24 [a0] h K KP :=
  .inl ⟨by kernel_rfl, hc_of mixed hG Try.func24 r1Valid_C r1Valid_R (of_decide_eq_true (by kernel_rfl)) Hw⟩
def r4zero_M : Nat → Bool := fun i => Nat.testBit 7 i
def r4zero_S : S :=
  (.seq (.sts [(.eff [] (some 1) (.box 39) [(.t 0)] []),
    (.set 2 (.c (.bool false)))]) (.seq (.sts [(.chk [] (.c1 (.fld 0) (.t 1))),
    (.chk [] (.c1 .ld1 (.o1 (.fld 0) (.t 1)))),
    (.chk [] (.c2 (.bin .eql) (.o1 .ld1 (.o1 (.fld 0) (.t 1))) (.c (.int .i64 0)))),
    (.chk [((.o2 (.bin .eql) (.o1 .ld1 (.o1 (.fld 0) (.t 1))) (.c (.int .i64 0))), true)] (.c1 (.fld 1) (.t 1))),
    (.chk [((.o2 (.bin .eql) (.o1 .ld1 (.o1 (.fld 0) (.t 1))) (.c (.int .i64 0))), true)] (.c1 .ld1 (.o1 (.fld 1) (.t 1)))),
    (.chk [((.o2 (.bin .eql) (.o1 .ld1 (.o1 (.fld 0) (.t 1))) (.c (.int .i64 0))), true)] (.c2 (.bin .eql) (.o1 .ld1 (.o1 (.fld 1) (.t 1))) (.c (.int .i64 0)))),
    (.chk [] (.c3 .pick (.o2 (.bin .eql) (.o1 .ld1 (.o1 (.fld 0) (.t 1))) (.c (.int .i64 0))) (.o2 (.bin .eql) (.o1 .ld1 (.o1 (.fld 1) (.t 1))) (.c (.int .i64 0))) (.c (.bool false)))),
    (.chk [((.o3 .pick (.o2 (.bin .eql) (.o1 .ld1 (.o1 (.fld 0) (.t 1))) (.c (.int .i64 0))) (.o2 (.bin .eql) (.o1 .ld1 (.o1 (.fld 1) (.t 1))) (.c (.int .i64 0))) (.c (.bool false))), true)] (.c1 (.fld 2) (.t 1))),
    (.chk [((.o3 .pick (.o2 (.bin .eql) (.o1 .ld1 (.o1 (.fld 0) (.t 1))) (.c (.int .i64 0))) (.o2 (.bin .eql) (.o1 .ld1 (.o1 (.fld 1) (.t 1))) (.c (.int .i64 0))) (.c (.bool false))), true)] (.c1 .ld1 (.o1 (.fld 2) (.t 1)))),
    (.chk [((.o3 .pick (.o2 (.bin .eql) (.o1 .ld1 (.o1 (.fld 0) (.t 1))) (.c (.int .i64 0))) (.o2 (.bin .eql) (.o1 .ld1 (.o1 (.fld 1) (.t 1))) (.c (.int .i64 0))) (.c (.bool false))), true)] (.c2 (.bin .eql) (.o1 .ld1 (.o1 (.fld 2) (.t 1))) (.c (str [])))),
    (.chk [] (.c3 .pick (.o3 .pick (.o2 (.bin .eql) (.o1 .ld1 (.o1 (.fld 0) (.t 1))) (.c (.int .i64 0))) (.o2 (.bin .eql) (.o1 .ld1 (.o1 (.fld 1) (.t 1))) (.c (.int .i64 0))) (.c (.bool false))) (.o2 (.bin .eql) (.o1 .ld1 (.o1 (.fld 2) (.t 1))) (.c (str []))) (.c (.bool false)))),
    (.set 2 (.o3 .pick (.o3 .pick (.o2 (.bin .eql) (.o1 .ld1 (.o1 (.fld 0) (.t 1))) (.c (.int .i64 0))) (.o2 (.bin .eql) (.o1 .ld1 (.o1 (.fld 1) (.t 1))) (.c (.int .i64 0))) (.c (.bool false))) (.o2 (.bin .eql) (.o1 .ld1 (.o1 (.fld 2) (.t 1))) (.c (str []))) (.c (.bool false))))]) .ret))
def r4zero_E : Res := [(none, (.t 2))]
theorem r4zero_C : Try.f16.body.bind (comp Try.prog r4zero_M Try.f16.ntmps) = some r4zero_S := by kernel_rfl
theorem r4zero_R : resE Try.prog r4zero_M Try.f16.results.toList = some r4zero_E := by kernel_rfl
theorem r4zero_H (G : Ctr) (hG : GOk Try.prog G) (a0 : Value) {h : H} {K : Value → H → Prop} {KP : List PanicEntry → H → Prop} (Hw : wpS G r4zero_S (retQ r4zero_E (callK K KP)) (envOf 0 [a0] env0) h) : HCX Try.prog 16 [a0] h K KP :=
  .inl ⟨by kernel_rfl, hc_of mixed hG Try.func16 r4zero_C r4zero_R (of_decide_eq_true (by kernel_rfl)) Hw⟩
def r4term_M : Nat → Bool := fun i => Nat.testBit 8405031 i
def r4term_S : S :=
  (.seq (.sts [(.eff [] (some 1) (.box 39) [(.t 0)] []),
    (.set 2 (.c (.int .i64 0)))]) (.seq (.seq (.sts [(.chk [] (.c1 (.fld 0) (.t 1))),
    (.chk [] (.c1 .ld1 (.o1 (.fld 0) (.t 1)))),
    (.chk [] (.c2 (.bin .eql) (.o1 .ld1 (.o1 (.fld 0) (.t 1))) (.c (.int .i64 4)))),
    (.set 5 (.o2 (.bin .eql) (.o1 .ld1 (.o1 (.fld 0) (.t 1))) (.c (.int .i64 4))))]) (.cond 5 (.seq (.seq (.sts [(.chk [] (.c1 (.fld 1) (.t 1))),
    (.chk [] (.c1 .ld1 (.o1 (.fld 1) (.t 1)))),
    (.chk [] (.c2 (.bin .neq) (.o1 .ld1 (.o1 (.fld 1) (.t 1))) (.c (.int .i64 0)))),
    (.chk [((.o2 (.bin .neq) (.o1 .ld1 (.o1 (.fld 1) (.t 1))) (.c (.int .i64 0))), false)] (.c1 (.fld 2) (.t 1))),
    (.chk [((.o2 (.bin .neq) (.o1 .ld1 (.o1 (.fld 1) (.t 1))) (.c (.int .i64 0))), false)] (.c1 .ld1 (.o1 (.fld 2) (.t 1)))),
    (.set 11 (.o1 .ld1 (.o1 (.fld 2) (.t 1)))),
    (.set 9 (.o2 (.bin .neq) (.o1 .ld1 (.o1 (.fld 1) (.t 1))) (.c (.int .i64 0)))),
    (.eff [((.t 9), false)] (some 12) (.call 23) [(.t 11)] []),
    (.chk [((.t 9), false)] (.c1 .not (.t 12))),
    (.chk [] (.c3 .pick (.t 9) (.c (.bool true)) (.o1 .not (.t 12)))),
    (.set 14 (.o3 .pick (.t 9) (.c (.bool true)) (.o1 .not (.t 12))))]) (.cond 14 (.seq (.sts [(.set 2 (.c (.int .i64 14)))]) .ret) .skip)) (.seq (.sts [(.set 2 (.c (.int .i64 0)))]) .ret)) .skip)) (.seq (.seq (.sts [(.chk [] (.c1 (.fld 0) (.t 1))),
    (.chk [] (.c1 .ld1 (.o1 (.fld 0) (.t 1)))),
    (.chk [] (.c1 (.fld 1) (.t 1))),
    (.chk [] (.c1 .ld1 (.o1 (.fld 1) (.t 1)))),
    (.chk [] (.c1 (.fld 2) (.t 1))),
    (.chk [] (.c1 .ld1 (.o1 (.fld 2) (.t 1)))),
    (.chk [] (.cb 3 [(0, (1, (.o1 .ld1 (.o1 (.fld 0) (.t 1))))), (1, (1, (.o1 .ld1 (.o1 (.fld 1) (.t 1))))), (2, (1, (.o1 .ld1 (.o1 (.fld 2) (.t 1)))))])),
    (.set 21 (.o2 (.put 2 1) (.o2 (.put 1 1) (.o2 (.put 0 1) (.c (.agg #[(.int .i64 0), (.int .i64 0), (str [])])) (.o1 .ld1 (.o1 (.fld 0) (.t 1)))) (.o1 .ld1 (.o1 (.fld 1) (.t 1)))) (.o1 .ld1 (.o1 (.fld 2) (.t 1))))),
    (.eff [] (some 22) (.call 24) [(.t 21)] []),
    (.chk [] (.c1 .not (.t 22))),
    (.set 23 (.o1 .not (.t 22)))]) (.cond 23 (.seq (.sts [(.set 2 (.c (.int .i64 5)))]) .ret) .skip)) (.seq (.sts [(.set 2 (.c (.int .i64 0)))]) .ret))))
def r4term_E : Res := [(none, (.t 2))]
theorem r4term_C : Try.f15.body.bind (comp Try.prog r4term_M Try.f15.ntmps) = some r4term_S := by kernel_rfl
theorem r4term_R : resE Try.prog r4term_M Try.f15.results.toList = some r4term_E := by kernel_rfl
theorem r4term_H (G : Ctr) (hG : GOk Try.prog G) (a0 : Value) {h : H} {K : Value → H → Prop} {KP : List PanicEntry → H → Prop} (Hw : wpS G r4term_S (retQ r4term_E (callK K KP)) (envOf 0 [a0] env0) h) : HCX Try.prog 15 [a0] h K KP :=
  .inl ⟨by kernel_rfl, hc_of mixed hG Try.func15 r4term_C r4term_R (of_decide_eq_true (by kernel_rfl)) Hw⟩
def r4atom_M : Nat → Bool := fun i => Nat.testBit 134353183 i
def r4atom_L1 : S :=
  (.seq (.seq (.sts [(.chk [] (.c1 (.fld 1) (.t 1))),
    (.chk [] (.c1 .ld1 (.o1 (.fld 1) (.t 1)))),
    (.chk [] (.c1 .len (.o1 .ld1 (.o1 (.fld 1) (.t 1))))),
    (.chk [] (.c2 (.bin .lss) (.t 3) (.o1 .len (.o1 .ld1 (.o1 (.fld 1) (.t 1)))))),
    (.set 17 (.o2 (.bin .lss) (.t 3) (.o1 .len (.o1 .ld1 (.o1 (.fld 1) (.t 1))))))]) (.cond 17 .skip (.exit 0))) (.seq (.block 1 (.seq (.sts [(.chk [] (.c1 (.fld 1) (.t 1))),
    (.chk [] (.c1 .ld1 (.o1 (.fld 1) (.t 1)))),
    (.chk [] (.c2 (.idxA 4) (.o1 .ld1 (.o1 (.fld 1) (.t 1))) (.t 3))),
    (.chk [] (.c1 (.ldn 4) (.o2 (.idxA 4) (.o1 .ld1 (.o1 (.fld 1) (.t 1))) (.t 3)))),
    (.set 24 (.o1 (.ldn 4) (.o2 (.idxA 4) (.o1 .ld1 (.o1 (.fld 1) (.t 1))) (.t 3)))),
    (.eff [] (some 25) (.call 15) [(.t 24)] []),
    (.set 4 (.t 25))]) (.seq (.sts [(.chk [] (.c2 (.bin .neq) (.t 4) (.c (.int .i64 0)))),
    (.set 27 (.o2 (.bin .neq) (.t 4) (.c (.int .i64 0))))]) (.cond 27 (.seq (.sts [(.set 2 (.t 4))]) .ret) .skip)))) (.sts [(.chk [] (.c2 (.bin .add) (.t 3) (.c (.int .i64 1)))),
    (.set 19 (.o2 (.bin .add) (.t 3) (.c (.int .i64 1)))),
    (.set 3 (.t 19))])))
def r4atom_S : S :=
  (.seq (.sts [(.eff [] (some 1) (.box 31) [(.t 0)] []),
    (.set 2 (.c (.int .i64 0)))]) (.seq (.seq (.sts [(.chk [] (.c1 (.fld 0) (.t 1))),
    (.chk [] (.c1 .ld1 (.o1 (.fld 0) (.t 1)))),
    (.set 6 (.o1 .ld1 (.o1 (.fld 0) (.t 1)))),
    (.eff [] (some 7) (.call 14) [(.t 6)] []),
    (.chk [] (.c1 .not (.t 7))),
    (.set 8 (.o1 .not (.t 7)))]) (.cond 8 (.seq (.sts [(.set 2 (.c (.int .i64 14)))]) .ret) .skip)) (.seq (.seq (.sts [(.chk [] (.c1 (.fld 1) (.t 1))),
    (.chk [] (.c1 .ld1 (.o1 (.fld 1) (.t 1)))),
    (.chk [] (.c1 .len (.o1 .ld1 (.o1 (.fld 1) (.t 1))))),
    (.chk [] (.c2 (.bin .gtr) (.o1 .len (.o1 .ld1 (.o1 (.fld 1) (.t 1)))) (.c (.int .i64 8)))),
    (.set 12 (.o2 (.bin .gtr) (.o1 .len (.o1 .ld1 (.o1 (.fld 1) (.t 1)))) (.c (.int .i64 8))))]) (.cond 12 (.seq (.sts [(.set 2 (.c (.int .i64 22)))]) .ret) .skip)) (.seq (.seq (.sts [(.set 3 (.c (.int .i64 0)))]) (.block 0 (.loop r4atom_L1))) (.seq (.sts [(.set 2 (.c (.int .i64 0)))]) .ret)))))
def r4atom_E : Res := [(none, (.t 2))]
theorem r4atom_C : Try.f9.body.bind (comp Try.prog r4atom_M Try.f9.ntmps) = some r4atom_S := by kernel_rfl
theorem r4atom_R : resE Try.prog r4atom_M Try.f9.results.toList = some r4atom_E := by kernel_rfl
theorem r4atom_H (G : Ctr) (hG : GOk Try.prog G) (a0 : Value) {h : H} {K : Value → H → Prop} {KP : List PanicEntry → H → Prop} (Hw : wpS G r4atom_S (retQ r4atom_E (callK K KP)) (envOf 0 [a0] env0) h) : HCX Try.prog 9 [a0] h K KP :=
  .inl ⟨by kernel_rfl, hc_of mixed hG Try.func9 r4atom_C r4atom_R (of_decide_eq_true (by kernel_rfl)) Hw⟩
def r4literal_M : Nat → Bool := fun i => Nat.testBit 18577348605509743 i
def r4literal_S : S :=
  (.seq (.sts [(.eff [] (some 1) (.box 41) [(.t 0)] []),
    (.set 2 (.c (.int .i64 0)))]) (.seq (.seq (.sts [(.chk [] (.c1 (.fld 0) (.t 1))),
    (.chk [] (.c1 .ld1 (.o1 (.fld 0) (.t 1)))),
    (.set 5 (.o1 .ld1 (.o1 (.fld 0) (.t 1))))]) (.block 0 (.seq (.seq (.sts [(.chk [] (.c2 (.bin .eql) (.t 5) (.c (.int .i64 1)))),
    (.set 6 (.o2 (.bin .eql) (.t 5) (.c (.int .i64 1))))]) (.cond 6 .skip (.sts [(.chk [] (.c2 (.bin .eql) (.t 5) (.c (.int .i64 2)))),
    (.set 6 (.o2 (.bin .eql) (.t 5) (.c (.int .i64 2))))]))) (.cond 6 (.seq (.seq (.sts [(.chk [] (.c1 (.fld 4) (.t 1))),
    (.chk [] (.c1 .ld1 (.o1 (.fld 4) (.t 1)))),
    (.chk [] (.c2 (.bin .neq) (.o1 .ld1 (.o1 (.fld 4) (.t 1))) (.c (.int .i64 0)))),
    (.chk [((.o2 (.bin .neq) (.o1 .ld1 (.o1 (.fld 4) (.t 1))) (.c (.int .i64 0))), false)] (.c1 (.fld 5) (.t 1))),
    (.chk [((.o2 (.bin .neq) (.o1 .ld1 (.o1 (.fld 4) (.t 1))) (.c (.int .i64 0))), false)] (.c1 (.ldn 4) (.o1 (.fld 5) (.t 1)))),
    (.set 14 (.o1 (.ldn 4) (.o1 (.fld 5) (.t 1)))),
    (.set 12 (.o2 (.bin .neq) (.o1 .ld1 (.o1 (.fld 4) (.t 1))) (.c (.int .i64 0)))),
    (.eff [((.t 12), false)] (some 15) (.call 16) [(.t 14)] []),
    (.chk [((.t 12), false)] (.c1 .not (.t 15))),
    (.chk [] (.c3 .pick (.t 12) (.c (.bool true)) (.o1 .not (.t 15)))),
    (.chk [((.o3 .pick (.t 12) (.c (.bool true)) (.o1 .not (.t 15))), false)] (.c1 (.fld 9) (.t 1))),
    (.chk [((.o3 .pick (.t 12) (.c (.bool true)) (.o1 .not (.t 15))), false)] (.c1 (.ldn 4) (.o1 (.fld 9) (.t 1)))),
    (.set 20 (.o1 (.ldn 4) (.o1 (.fld 9) (.t 1)))),
    (.eff [((.o3 .pick (.t 12) (.c (.bool true)) (.o1 .not (.t 15))), false)] (some 21) (.call 16) [(.t 20)] []),
    (.chk [((.o3 .pick (.t 12) (.c (.bool true)) (.o1 .not (.t 15))), false)] (.c1 .not (.t 21))),
    (.chk [] (.c3 .pick (.o3 .pick (.t 12) (.c (.bool true)) (.o1 .not (.t 15))) (.c (.bool true)) (.o1 .not (.t 21)))),
    (.set 23 (.o3 .pick (.o3 .pick (.t 12) (.c (.bool true)) (.o1 .not (.t 15))) (.c (.bool true)) (.o1 .not (.t 21))))]) (.cond 23 (.seq (.sts [(.set 2 (.c (.int .i64 2)))]) .ret) .skip)) (.seq (.sts [(.chk [] (.c1 (.fld 1) (.t 1))),
    (.chk [] (.c1 (.ldn 3) (.o1 (.fld 1) (.t 1)))),
    (.set 25 (.o1 (.ldn 3) (.o1 (.fld 1) (.t 1)))),
    (.eff [] (some 26) (.call 9) [(.t 25)] []),
    (.set 2 (.t 26))]) .ret)) (.seq (.sts [(.chk [] (.c2 (.bin .eql) (.t 5) (.c (.int .i64 3)))),
    (.set 27 (.o2 (.bin .eql) (.t 5) (.c (.int .i64 3))))]) (.cond 27 (.seq (.seq (.sts [(.chk [] (.c1 (.fld 4) (.t 1))),
    (.chk [] (.c1 .ld1 (.o1 (.fld 4) (.t 1)))),
    (.chk [] (.c2 (.bin .lss) (.o1 .ld1 (.o1 (.fld 4) (.t 1))) (.c (.int .i64 1)))),
    (.chk [((.o2 (.bin .lss) (.o1 .ld1 (.o1 (.fld 4) (.t 1))) (.c (.int .i64 1))), false)] (.c1 (.fld 4) (.t 1))),
    (.chk [((.o2 (.bin .lss) (.o1 .ld1 (.o1 (.fld 4) (.t 1))) (.c (.int .i64 1))), false)] (.c1 .ld1 (.o1 (.fld 4) (.t 1)))),
    (.chk [((.o2 (.bin .lss) (.o1 .ld1 (.o1 (.fld 4) (.t 1))) (.c (.int .i64 1))), false)] (.c2 (.bin .gtr) (.o1 .ld1 (.o1 (.fld 4) (.t 1))) (.c (.int .i64 6)))),
    (.chk [] (.c3 .pick (.o2 (.bin .lss) (.o1 .ld1 (.o1 (.fld 4) (.t 1))) (.c (.int .i64 1))) (.c (.bool true)) (.o2 (.bin .gtr) (.o1 .ld1 (.o1 (.fld 4) (.t 1))) (.c (.int .i64 6))))),
    (.chk [((.o3 .pick (.o2 (.bin .lss) (.o1 .ld1 (.o1 (.fld 4) (.t 1))) (.c (.int .i64 1))) (.c (.bool true)) (.o2 (.bin .gtr) (.o1 .ld1 (.o1 (.fld 4) (.t 1))) (.c (.int .i64 6)))), false)] (.c1 (.fld 1) (.t 1))),
    (.chk [((.o3 .pick (.o2 (.bin .lss) (.o1 .ld1 (.o1 (.fld 4) (.t 1))) (.c (.int .i64 1))) (.c (.bool true)) (.o2 (.bin .gtr) (.o1 .ld1 (.o1 (.fld 4) (.t 1))) (.c (.int .i64 6)))), false)] (.c1 (.fld 0) (.o1 (.fld 1) (.t 1)))),
    (.chk [((.o3 .pick (.o2 (.bin .lss) (.o1 .ld1 (.o1 (.fld 4) (.t 1))) (.c (.int .i64 1))) (.c (.bool true)) (.o2 (.bin .gtr) (.o1 .ld1 (.o1 (.fld 4) (.t 1))) (.c (.int .i64 6)))), false)] (.c1 .ld1 (.o1 (.fld 0) (.o1 (.fld 1) (.t 1))))),
    (.chk [((.o3 .pick (.o2 (.bin .lss) (.o1 .ld1 (.o1 (.fld 4) (.t 1))) (.c (.int .i64 1))) (.c (.bool true)) (.o2 (.bin .gtr) (.o1 .ld1 (.o1 (.fld 4) (.t 1))) (.c (.int .i64 6)))), false)] (.c2 (.bin .neq) (.o1 .ld1 (.o1 (.fld 0) (.o1 (.fld 1) (.t 1)))) (.c (str [])))),
    (.chk [] (.c3 .pick (.o3 .pick (.o2 (.bin .lss) (.o1 .ld1 (.o1 (.fld 4) (.t 1))) (.c (.int .i64 1))) (.c (.bool true)) (.o2 (.bin .gtr) (.o1 .ld1 (.o1 (.fld 4) (.t 1))) (.c (.int .i64 6)))) (.c (.bool true)) (.o2 (.bin .neq) (.o1 .ld1 (.o1 (.fld 0) (.o1 (.fld 1) (.t 1)))) (.c (str []))))),
    (.chk [((.o3 .pick (.o3 .pick (.o2 (.bin .lss) (.o1 .ld1 (.o1 (.fld 4) (.t 1))) (.c (.int .i64 1))) (.c (.bool true)) (.o2 (.bin .gtr) (.o1 .ld1 (.o1 (.fld 4) (.t 1))) (.c (.int .i64 6)))) (.c (.bool true)) (.o2 (.bin .neq) (.o1 .ld1 (.o1 (.fld 0) (.o1 (.fld 1) (.t 1)))) (.c (str [])))), false)] (.c1 (.fld 1) (.t 1))),
    (.chk [((.o3 .pick (.o3 .pick (.o2 (.bin .lss) (.o1 .ld1 (.o1 (.fld 4) (.t 1))) (.c (.int .i64 1))) (.c (.bool true)) (.o2 (.bin .gtr) (.o1 .ld1 (.o1 (.fld 4) (.t 1))) (.c (.int .i64 6)))) (.c (.bool true)) (.o2 (.bin .neq) (.o1 .ld1 (.o1 (.fld 0) (.o1 (.fld 1) (.t 1)))) (.c (str [])))), false)] (.c1 (.fld 1) (.o1 (.fld 1) (.t 1)))),
    (.chk [((.o3 .pick (.o3 .pick (.o2 (.bin .lss) (.o1 .ld1 (.o1 (.fld 4) (.t 1))) (.c (.int .i64 1))) (.c (.bool true)) (.o2 (.bin .gtr) (.o1 .ld1 (.o1 (.fld 4) (.t 1))) (.c (.int .i64 6)))) (.c (.bool true)) (.o2 (.bin .neq) (.o1 .ld1 (.o1 (.fld 0) (.o1 (.fld 1) (.t 1)))) (.c (str [])))), false)] (.c1 .ld1 (.o1 (.fld 1) (.o1 (.fld 1) (.t 1))))),
    (.chk [((.o3 .pick (.o3 .pick (.o2 (.bin .lss) (.o1 .ld1 (.o1 (.fld 4) (.t 1))) (.c (.int .i64 1))) (.c (.bool true)) (.o2 (.bin .gtr) (.o1 .ld1 (.o1 (.fld 4) (.t 1))) (.c (.int .i64 6)))) (.c (.bool true)) (.o2 (.bin .neq) (.o1 .ld1 (.o1 (.fld 0) (.o1 (.fld 1) (.t 1)))) (.c (str [])))), false)] (.c1 .len (.o1 .ld1 (.o1 (.fld 1) (.o1 (.fld 1) (.t 1)))))),
    (.chk [((.o3 .pick (.o3 .pick (.o2 (.bin .lss) (.o1 .ld1 (.o1 (.fld 4) (.t 1))) (.c (.int .i64 1))) (.c (.bool true)) (.o2 (.bin .gtr) (.o1 .ld1 (.o1 (.fld 4) (.t 1))) (.c (.int .i64 6)))) (.c (.bool true)) (.o2 (.bin .neq) (.o1 .ld1 (.o1 (.fld 0) (.o1 (.fld 1) (.t 1)))) (.c (str [])))), false)] (.c2 (.bin .gtr) (.o1 .len (.o1 .ld1 (.o1 (.fld 1) (.o1 (.fld 1) (.t 1))))) (.c (.int .i64 0)))),
    (.chk [] (.c3 .pick (.o3 .pick (.o3 .pick (.o2 (.bin .lss) (.o1 .ld1 (.o1 (.fld 4) (.t 1))) (.c (.int .i64 1))) (.c (.bool true)) (.o2 (.bin .gtr) (.o1 .ld1 (.o1 (.fld 4) (.t 1))) (.c (.int .i64 6)))) (.c (.bool true)) (.o2 (.bin .neq) (.o1 .ld1 (.o1 (.fld 0) (.o1 (.fld 1) (.t 1)))) (.c (str [])))) (.c (.bool true)) (.o2 (.bin .gtr) (.o1 .len (.o1 .ld1 (.o1 (.fld 1) (.o1 (.fld 1) (.t 1))))) (.c (.int .i64 0))))),
    (.set 49 (.o3 .pick (.o3 .pick (.o3 .pick (.o2 (.bin .lss) (.o1 .ld1 (.o1 (.fld 4) (.t 1))) (.c (.int .i64 1))) (.c (.bool true)) (.o2 (.bin .gtr) (.o1 .ld1 (.o1 (.fld 4) (.t 1))) (.c (.int .i64 6)))) (.c (.bool true)) (.o2 (.bin .neq) (.o1 .ld1 (.o1 (.fld 0) (.o1 (.fld 1) (.t 1)))) (.c (str [])))) (.c (.bool true)) (.o2 (.bin .gtr) (.o1 .len (.o1 .ld1 (.o1 (.fld 1) (.o1 (.fld 1) (.t 1))))) (.c (.int .i64 0)))))]) (.cond 49 (.seq (.sts [(.set 2 (.c (.int .i64 2)))]) .ret) .skip)) (.seq (.sts [(.chk [] (.c1 (.fld 5) (.t 1))),
    (.chk [] (.c1 (.ldn 4) (.o1 (.fld 5) (.t 1)))),
    (.set 51 (.o1 (.ldn 4) (.o1 (.fld 5) (.t 1)))),
    (.eff [] (some 52) (.call 15) [(.t 51)] []),
    (.set 3 (.t 52))]) (.seq (.seq (.sts [(.chk [] (.c2 (.bin .neq) (.t 3) (.c (.int .i64 0)))),
    (.set 54 (.o2 (.bin .neq) (.t 3) (.c (.int .i64 0))))]) (.cond 54 (.seq (.sts [(.set 2 (.t 3))]) .ret) .skip)) (.seq (.sts [(.chk [] (.c1 (.fld 9) (.t 1))),
    (.chk [] (.c1 (.ldn 4) (.o1 (.fld 9) (.t 1)))),
    (.set 57 (.o1 (.ldn 4) (.o1 (.fld 9) (.t 1)))),
    (.eff [] (some 58) (.call 15) [(.t 57)] []),
    (.set 2 (.t 58))]) .ret)))) .skip)))))) (.seq (.sts [(.set 2 (.c (.int .i64 2)))]) .ret)))
def r4literal_E : Res := [(none, (.t 2))]
theorem r4literal_C : Try.f10.body.bind (comp Try.prog r4literal_M Try.f10.ntmps) = some r4literal_S := by kernel_rfl
theorem r4literal_R : resE Try.prog r4literal_M Try.f10.results.toList = some r4literal_E := by kernel_rfl
theorem r4literal_H (G : Ctr) (hG : GOk Try.prog G) (a0 : Value) {h : H} {K : Value → H → Prop} {KP : List PanicEntry → H → Prop} (Hw : wpS G r4literal_S (retQ r4literal_E (callK K KP)) (envOf 0 [a0] env0) h) : HCX Try.prog 10 [a0] h K KP :=
  .inl ⟨by kernel_rfl, hc_of mixed hG Try.func10 r4literal_C r4literal_R (of_decide_eq_true (by kernel_rfl)) Hw⟩
def r4clause_M : Nat → Bool := fun i => Nat.testBit 537412127 i
def r4clause_L1 : S :=
  (.seq (.seq (.sts [(.chk [] (.c1 (.fld 3) (.t 1))),
    (.chk [] (.c1 .ld1 (.o1 (.fld 3) (.t 1)))),
    (.chk [] (.c1 .len (.o1 .ld1 (.o1 (.fld 3) (.t 1))))),
    (.chk [] (.c2 (.bin .lss) (.t 4) (.o1 .len (.o1 .ld1 (.o1 (.fld 3) (.t 1)))))),
    (.set 19 (.o2 (.bin .lss) (.t 4) (.o1 .len (.o1 .ld1 (.o1 (.fld 3) (.t 1))))))]) (.cond 19 .skip (.exit 0))) (.seq (.block 1 (.seq (.sts [(.chk [] (.c1 (.fld 3) (.t 1))),
    (.chk [] (.c1 .ld1 (.o1 (.fld 3) (.t 1)))),
    (.chk [] (.c2 (.idxA 14) (.o1 .ld1 (.o1 (.fld 3) (.t 1))) (.t 4))),
    (.chk [] (.c1 (.ldn 14) (.o2 (.idxA 14) (.o1 .ld1 (.o1 (.fld 3) (.t 1))) (.t 4)))),
    (.set 26 (.o1 (.ldn 14) (.o2 (.idxA 14) (.o1 .ld1 (.o1 (.fld 3) (.t 1))) (.t 4)))),
    (.eff [] (some 27) (.call 10) [(.t 26)] []),
    (.set 3 (.t 27))]) (.seq (.sts [(.chk [] (.c2 (.bin .neq) (.t 3) (.c (.int .i64 0)))),
    (.set 29 (.o2 (.bin .neq) (.t 3) (.c (.int .i64 0))))]) (.cond 29 (.seq (.sts [(.set 2 (.t 3))]) .ret) .skip)))) (.sts [(.chk [] (.c2 (.bin .add) (.t 4) (.c (.int .i64 1)))),
    (.set 21 (.o2 (.bin .add) (.t 4) (.c (.int .i64 1)))),
    (.set 4 (.t 21))])))
def r4clause_S : S :=
  (.seq (.sts [(.eff [] (some 1) (.box 34) [(.t 0)] []),
    (.set 2 (.c (.int .i64 0)))]) (.seq (.sts [(.chk [] (.c1 (.fld 0) (.t 1))),
    (.chk [] (.c1 (.ldn 3) (.o1 (.fld 0) (.t 1)))),
    (.set 6 (.o1 (.ldn 3) (.o1 (.fld 0) (.t 1)))),
    (.eff [] (some 7) (.call 9) [(.t 6)] []),
    (.set 3 (.t 7))]) (.seq (.seq (.sts [(.chk [] (.c2 (.bin .neq) (.t 3) (.c (.int .i64 0)))),
    (.set 9 (.o2 (.bin .neq) (.t 3) (.c (.int .i64 0))))]) (.cond 9 (.seq (.sts [(.set 2 (.t 3))]) .ret) .skip)) (.seq (.seq (.sts [(.chk [] (.c1 (.fld 3) (.t 1))),
    (.chk [] (.c1 .ld1 (.o1 (.fld 3) (.t 1)))),
    (.chk [] (.c1 .len (.o1 .ld1 (.o1 (.fld 3) (.t 1))))),
    (.chk [] (.c2 (.bin .gtr) (.o1 .len (.o1 .ld1 (.o1 (.fld 3) (.t 1)))) (.c (.int .i64 16)))),
    (.set 14 (.o2 (.bin .gtr) (.o1 .len (.o1 .ld1 (.o1 (.fld 3) (.t 1)))) (.c (.int .i64 16))))]) (.cond 14 (.seq (.sts [(.set 2 (.c (.int .i64 23)))]) .ret) .skip)) (.seq (.seq (.sts [(.set 4 (.c (.int .i64 0)))]) (.block 0 (.loop r4clause_L1))) (.seq (.sts [(.set 2 (.c (.int .i64 0)))]) .ret))))))
def r4clause_E : Res := [(none, (.t 2))]
theorem r4clause_C : Try.f6.body.bind (comp Try.prog r4clause_M Try.f6.ntmps) = some r4clause_S := by kernel_rfl
theorem r4clause_R : resE Try.prog r4clause_M Try.f6.results.toList = some r4clause_E := by kernel_rfl
theorem r4clause_H (G : Ctr) (hG : GOk Try.prog G) (a0 : Value) {h : H} {K : Value → H → Prop} {KP : List PanicEntry → H → Prop} (Hw : wpS G r4clause_S (retQ r4clause_E (callK K KP)) (envOf 0 [a0] env0) h) : HCX Try.prog 6 [a0] h K KP :=
  .inl ⟨by kernel_rfl, hc_of mixed hG Try.func6 r4clause_C r4clause_R (of_decide_eq_true (by kernel_rfl)) Hw⟩
def r4Well_M : Nat → Bool := fun i => Nat.testBit 8397087 i
def r4Well_L1 : S :=
  (.seq (.seq (.sts [(.chk [] (.c1 (.fld 0) (.t 1))),
    (.chk [] (.c1 .ld1 (.o1 (.fld 0) (.t 1)))),
    (.chk [] (.c1 .len (.o1 .ld1 (.o1 (.fld 0) (.t 1))))),
    (.chk [] (.c2 (.bin .lss) (.t 3) (.o1 .len (.o1 .ld1 (.o1 (.fld 0) (.t 1)))))),
    (.set 13 (.o2 (.bin .lss) (.t 3) (.o1 .len (.o1 .ld1 (.o1 (.fld 0) (.t 1))))))]) (.cond 13 .skip (.exit 0))) (.seq (.block 1 (.seq (.sts [(.chk [] (.c1 (.fld 0) (.t 1))),
    (.chk [] (.c1 .ld1 (.o1 (.fld 0) (.t 1)))),
    (.chk [] (.c2 (.idxA 4) (.o1 .ld1 (.o1 (.fld 0) (.t 1))) (.t 3))),
    (.chk [] (.c1 (.ldn 4) (.o2 (.idxA 4) (.o1 .ld1 (.o1 (.fld 0) (.t 1))) (.t 3)))),
    (.set 20 (.o1 (.ldn 4) (.o2 (.idxA 4) (.o1 .ld1 (.o1 (.fld 0) (.t 1))) (.t 3)))),
    (.eff [] (some 21) (.call 6) [(.t 20)] []),
    (.set 4 (.t 21))]) (.seq (.sts [(.chk [] (.c2 (.bin .neq) (.t 4) (.c (.int .i64 0)))),
    (.set 23 (.o2 (.bin .neq) (.t 4) (.c (.int .i64 0))))]) (.cond 23 (.seq (.sts [(.set 2 (.t 4))]) .ret) .skip)))) (.sts [(.chk [] (.c2 (.bin .add) (.t 3) (.c (.int .i64 1)))),
    (.set 15 (.o2 (.bin .add) (.t 3) (.c (.int .i64 1)))),
    (.set 3 (.t 15))])))
def r4Well_S : S :=
  (.seq (.sts [(.eff [] (some 1) (.box 24) [(.t 0)] []),
    (.set 2 (.c (.int .i64 0)))]) (.seq (.seq (.sts [(.chk [] (.c1 (.fld 0) (.t 1))),
    (.chk [] (.c1 .ld1 (.o1 (.fld 0) (.t 1)))),
    (.chk [] (.c1 .len (.o1 .ld1 (.o1 (.fld 0) (.t 1))))),
    (.chk [] (.c2 (.bin .gtr) (.o1 .len (.o1 .ld1 (.o1 (.fld 0) (.t 1)))) (.c (.int .i64 512)))),
    (.set 8 (.o2 (.bin .gtr) (.o1 .len (.o1 .ld1 (.o1 (.fld 0) (.t 1)))) (.c (.int .i64 512))))]) (.cond 8 (.seq (.sts [(.set 2 (.c (.int .i64 24)))]) .ret) .skip)) (.seq (.seq (.sts [(.set 3 (.c (.int .i64 0)))]) (.block 0 (.loop r4Well_L1))) (.seq (.sts [(.set 2 (.c (.int .i64 0)))]) .ret))))
def r4Well_E : Res := [(none, (.t 2))]
theorem r4Well_C : Try.f4.body.bind (comp Try.prog r4Well_M Try.f4.ntmps) = some r4Well_S := by kernel_rfl
theorem r4Well_R : resE Try.prog r4Well_M Try.f4.results.toList = some r4Well_E := by kernel_rfl
theorem r4Well_H (G : Ctr) (hG : GOk Try.prog G) (a0 : Value) {h : H} {K : Value → H → Prop} {KP : List PanicEntry → H → Prop} (Hw : wpS G r4Well_S (retQ r4Well_E (callK K KP)) (envOf 0 [a0] env0) h) : HCX Try.prog 4 [a0] h K KP :=
  .inl ⟨by kernel_rfl, hc_of mixed hG Try.func4 r4Well_C r4Well_R (of_decide_eq_true (by kernel_rfl)) Hw⟩
def PrintWells_M : Nat → Bool := fun i => Nat.testBit 15 i
def PrintWells_S : S :=
  (.seq (.sts [(.eff [] (some 1) (.box 24) [(.t 0)] []),
    (.set 2 (.c (.bool false)))]) (.seq (.sts [(.chk [] (.c1 (.ldn 1) (.t 1))),
    (.set 4 (.o1 (.ldn 1) (.t 1))),
    (.eff [] (some 5) (.call 4) [(.t 4)] []),
    (.set 3 (.t 5))]) (.seq (.sts [(.chk [] (.c1 (.ldn 1) (.t 1))),
    (.set 6 (.o1 (.ldn 1) (.t 1))),
    (.eff [] (some 7) (.call 5) [(.t 6)] []),
    (.chk [] (.c2 (.bin .eql) (.t 7) (.t 3))),
    (.set 2 (.o2 (.bin .eql) (.t 7) (.t 3)))]) .ret)))
def PrintWells_E : Res := [(none, (.t 2))]
theorem PrintWells_C : Try.f3.body.bind (comp Try.prog PrintWells_M Try.f3.ntmps) = some PrintWells_S := by kernel_rfl
theorem PrintWells_R : resE Try.prog PrintWells_M Try.f3.results.toList = some PrintWells_E := by kernel_rfl
theorem PrintWells_H (G : Ctr) (hG : GOk Try.prog G) (a0 : Value) {h : H} {K : Value → H → Prop} {KP : List PanicEntry → H → Prop} (Hw : wpS G PrintWells_S (retQ PrintWells_E (callK K KP)) (envOf 0 [a0] env0) h) : HCX Try.prog 3 [a0] h K KP :=
  .inl ⟨by kernel_rfl, hc_of mixed hG Try.func3 PrintWells_C PrintWells_R (of_decide_eq_true (by kernel_rfl)) Hw⟩
end Go.Proofs.Ytcapfjdfhdfpjaa
