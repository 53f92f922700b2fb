/- The small statements of functions of the program, as the closed computation gives them (written by a program of ours; checked by the kernel below). -/
import Derived.Test.YteiopegaiohglaaDoorEvB
import Derived.Test.YteiopegaiohglaaDoorProg
import Derived.KernelRfl
import Derived.Test.YteiopegaiohglaaDoorPsS
namespace Go.Proofs.YteiopegaiohglaaDoor
open Go Go.Ev
def symSmall_M : Nat → Bool := fun i => Nat.testBit 5 i
def symSmall_S : S :=
  (.seq (.sts [(.set 2 (.c (.bool false)))]) (.seq (.sts [(.chk [] (.c2 (.bin .leq) (.c (.int .u8 97)) (.t 0))),
    (.chk [((.o2 (.bin .leq) (.c (.int .u8 97)) (.t 0)), true)] (.c2 (.bin .leq) (.t 0) (.c (.int .u8 122)))),
    (.chk [] (.c3 .pick (.o2 (.bin .leq) (.c (.int .u8 97)) (.t 0)) (.o2 (.bin .leq) (.t 0) (.c (.int .u8 122))) (.c (.bool false)))),
    (.set 2 (.o3 .pick (.o2 (.bin .leq) (.c (.int .u8 97)) (.t 0)) (.o2 (.bin .leq) (.t 0) (.c (.int .u8 122))) (.c (.bool false))))]) .ret))
def symSmall_E : Res := [(none, (.t 2))]
theorem symSmall_C : Tryd.f41.body.bind (comp Tryd.prog symSmall_M Tryd.f41.ntmps) = some symSmall_S := by kernel_rfl
theorem symSmall_R : resE Tryd.prog symSmall_M Tryd.f41.results.toList = some symSmall_E := by kernel_rfl
theorem symSmall_H (G : Ctr) (hG : GOk Tryd.prog G) (a0 : Value) {h : H} {K : Value → H → Prop} {KP : List PanicEntry → H → Prop} (Hw : wpS G symSmall_S (retQ symSmall_E (callK K KP)) (envOf 0 [a0] env0) h) : HCX Tryd.prog 41 [a0] h K KP :=
  .inl ⟨by kernel_rfl, hc_of mixed hG Tryd.func41 symSmall_C symSmall_R (of_decide_eq_true (by kernel_rfl)) Hw⟩
def symBig_M : Nat → Bool := fun i => Nat.testBit 5 i
def symBig_S : S :=
  (.seq (.sts [(.set 2 (.c (.bool false)))]) (.seq (.sts [(.chk [] (.c2 (.bin .leq) (.c (.int .u8 65)) (.t 0))),
    (.chk [((.o2 (.bin .leq) (.c (.int .u8 65)) (.t 0)), true)] (.c2 (.bin .leq) (.t 0) (.c (.int .u8 90)))),
    (.chk [] (.c3 .pick (.o2 (.bin .leq) (.c (.int .u8 65)) (.t 0)) (.o2 (.bin .leq) (.t 0) (.c (.int .u8 90))) (.c (.bool false)))),
    (.chk [((.o3 .pick (.o2 (.bin .leq) (.c (.int .u8 65)) (.t 0)) (.o2 (.bin .leq) (.t 0) (.c (.int .u8 90))) (.c (.bool false))), false)] (.c2 (.bin .eql) (.t 0) (.c (.int .u8 95)))),
    (.chk [] (.c3 .pick (.o3 .pick (.o2 (.bin .leq) (.c (.int .u8 65)) (.t 0)) (.o2 (.bin .leq) (.t 0) (.c (.int .u8 90))) (.c (.bool false))) (.c (.bool true)) (.o2 (.bin .eql) (.t 0) (.c (.int .u8 95))))),
    (.set 2 (.o3 .pick (.o3 .pick (.o2 (.bin .leq) (.c (.int .u8 65)) (.t 0)) (.o2 (.bin .leq) (.t 0) (.c (.int .u8 90))) (.c (.bool false))) (.c (.bool true)) (.o2 (.bin .eql) (.t 0) (.c (.int .u8 95)))))]) .ret))
def symBig_E : Res := [(none, (.t 2))]
theorem symBig_C : Tryd.f48.body.bind (comp Tryd.prog symBig_M Tryd.f48.ntmps) = some symBig_S := by kernel_rfl
theorem symBig_R : resE Tryd.prog symBig_M Tryd.f48.results.toList = some symBig_E := by kernel_rfl
theorem symBig_H (G : Ctr) (hG : GOk Tryd.prog G) (a0 : Value) {h : H} {K : Value → H → Prop} {KP : List PanicEntry → H → Prop} (Hw : wpS G symBig_S (retQ symBig_E (callK K KP)) (envOf 0 [a0] env0) h) : HCX Tryd.prog 48 [a0] h K KP :=
  .inl ⟨by kernel_rfl, hc_of mixed hG Tryd.func48 symBig_C symBig_R (of_decide_eq_true (by kernel_rfl)) Hw⟩
def symWord_M : Nat → Bool := fun i => Nat.testBit 17592312922195 i
def symWord_L1 : S :=
  (.seq (.sts [(.chk [] (.c2 (.bin .lss) (.t 25) (.t 24))),
    (.set 26 (.o2 (.bin .lss) (.t 25) (.t 24)))]) (.seq (.cond 26 .skip (.exit 0)) (.seq (.block 1 (.seq (.sts [(.chk [] (.c2 (.idxA 1) (.t 23) (.t 25))),
    (.chk [] (.c1 .ld1 (.o2 (.idxA 1) (.t 23) (.t 25)))),
    (.set 6 (.o1 .ld1 (.o2 (.idxA 1) (.t 23) (.t 25))))]) (.seq (.sts [(.eff [] (some 30) (.call 41) [(.t 6)] []),
    (.chk [] (.c1 .not (.t 30))),
    (.eff [((.o1 .not (.t 30)), true)] (some 34) (.call 48) [(.t 6)] []),
    (.chk [((.o1 .not (.t 30)), true)] (.c1 .not (.t 34))),
    (.chk [] (.c3 .pick (.o1 .not (.t 30)) (.o1 .not (.t 34)) (.c (.bool false)))),
    (.chk [((.o3 .pick (.o1 .not (.t 30)) (.o1 .not (.t 34)) (.c (.bool false))), true)] (.c2 (.bin .lss) (.t 6) (.c (.int .u8 48)))),
    (.chk [((.o2 (.bin .lss) (.t 6) (.c (.int .u8 48))), false), ((.o3 .pick (.o1 .not (.t 30)) (.o1 .not (.t 34)) (.c (.bool false))), true)] (.c2 (.bin .gtr) (.t 6) (.c (.int .u8 57)))),
    (.chk [((.o3 .pick (.o1 .not (.t 30)) (.o1 .not (.t 34)) (.c (.bool false))), true)] (.c3 .pick (.o2 (.bin .lss) (.t 6) (.c (.int .u8 48))) (.c (.bool true)) (.o2 (.bin .gtr) (.t 6) (.c (.int .u8 57))))),
    (.chk [] (.c3 .pick (.o3 .pick (.o1 .not (.t 30)) (.o1 .not (.t 34)) (.c (.bool false))) (.o3 .pick (.o2 (.bin .lss) (.t 6) (.c (.int .u8 48))) (.c (.bool true)) (.o2 (.bin .gtr) (.t 6) (.c (.int .u8 57)))) (.c (.bool false)))),
    (.set 44 (.o3 .pick (.o3 .pick (.o1 .not (.t 30)) (.o1 .not (.t 34)) (.c (.bool false))) (.o3 .pick (.o2 (.bin .lss) (.t 6) (.c (.int .u8 48))) (.c (.bool true)) (.o2 (.bin .gtr) (.t 6) (.c (.int .u8 57)))) (.c (.bool false))))]) (.cond 44 (.seq (.sts [(.set 4 (.c (.bool false)))]) .ret) .skip)))) (.sts [(.chk [] (.c2 (.bin .add) (.t 25) (.c (.int .i64 1)))),
    (.set 45 (.o2 (.bin .add) (.t 25) (.c (.int .i64 1)))),
    (.set 25 (.t 45))]))))
def symWord_S : S :=
  (.seq (.sts [(.set 4 (.c (.bool false)))]) (.seq (.seq (.sts [(.chk [] (.c2 (.bin .eql) (.t 0) (.c (str [])))),
    (.chk [((.o2 (.bin .eql) (.t 0) (.c (str []))), false)] (.c1 .lens (.t 0))),
    (.chk [((.o2 (.bin .eql) (.t 0) (.c (str []))), false)] (.c2 (.bin .gtr) (.o1 .lens (.t 0)) (.c (.int .i64 64)))),
    (.chk [] (.c3 .pick (.o2 (.bin .eql) (.t 0) (.c (str []))) (.c (.bool true)) (.o2 (.bin .gtr) (.o1 .lens (.t 0)) (.c (.int .i64 64))))),
    (.chk [((.o3 .pick (.o2 (.bin .eql) (.t 0) (.c (str []))) (.c (.bool true)) (.o2 (.bin .gtr) (.o1 .lens (.t 0)) (.c (.int .i64 64)))), false)] (.c2 .idxS (.t 0) (.c (.int .i64 0)))),
    (.eff [((.o3 .pick (.o2 (.bin .eql) (.t 0) (.c (str []))) (.c (.bool true)) (.o2 (.bin .gtr) (.o1 .lens (.t 0)) (.c (.int .i64 64)))), false)] (some 18) .callv [(.t 1), (.o2 .idxS (.t 0) (.c (.int .i64 0)))] []),
    (.chk [((.o3 .pick (.o2 (.bin .eql) (.t 0) (.c (str []))) (.c (.bool true)) (.o2 (.bin .gtr) (.o1 .lens (.t 0)) (.c (.int .i64 64)))), false)] (.c1 .not (.t 18))),
    (.chk [] (.c3 .pick (.o3 .pick (.o2 (.bin .eql) (.t 0) (.c (str []))) (.c (.bool true)) (.o2 (.bin .gtr) (.o1 .lens (.t 0)) (.c (.int .i64 64)))) (.c (.bool true)) (.o1 .not (.t 18)))),
    (.set 20 (.o3 .pick (.o3 .pick (.o2 (.bin .eql) (.t 0) (.c (str []))) (.c (.bool true)) (.o2 (.bin .gtr) (.o1 .lens (.t 0)) (.c (.int .i64 64)))) (.c (.bool true)) (.o1 .not (.t 18))))]) (.cond 20 (.seq (.sts [(.set 4 (.c (.bool false)))]) .ret) .skip)) (.seq (.seq (.sts [(.chk [] (.c2 .subLo (.t 0) (.c (.int .i64 1)))),
    (.eff [] (some 23) (.s2b 5) [(.o2 .subLo (.t 0) (.c (.int .i64 1)))] []),
    (.chk [] (.c1 .len (.t 23))),
    (.set 24 (.o1 .len (.t 23))),
    (.set 25 (.c (.int .i64 0)))]) (.block 0 (.loop symWord_L1))) (.seq (.sts [(.set 4 (.c (.bool true)))]) .ret))))
def symWord_E : Res := [(none, (.t 4))]
theorem symWord_C : Tryd.f40.body.bind (comp Tryd.prog symWord_M Tryd.f40.ntmps) = some symWord_S := by kernel_rfl
theorem symWord_R : resE Tryd.prog symWord_M Tryd.f40.results.toList = some symWord_E := by kernel_rfl
theorem symWord_H (G : Ctr) (hG : GOk Tryd.prog G) (a0 : Value) (a1 : Value) {h : H} {K : Value → H → Prop} {KP : List PanicEntry → H → Prop} (Hw : wpS G symWord_S (retQ symWord_E (callK K KP)) (envOf 0 [a0, a1] env0) h) : HCX Tryd.prog 40 [a0, a1] h K KP :=
  .inl ⟨by kernel_rfl, hc_of mixed hG Tryd.func40 symWord_C symWord_R (of_decide_eq_true (by kernel_rfl)) Hw⟩
def symIsName_M : Nat → Bool := fun i => Nat.testBit 5 i
def symIsName_S : S :=
  (.seq (.sts [(.set 2 (.c (.bool false)))]) (.seq (.sts [(.chk [] (.c2 (.bin .neq) (.t 0) (.c (str [110, 111, 116])))),
    (.eff [((.o2 (.bin .neq) (.t 0) (.c (str [110, 111, 116]))), true)] (some 7) (.call 40) [(.t 0), (.c (.func (.func 41) #[] #[]))] []),
    (.chk [] (.c3 .pick (.o2 (.bin .neq) (.t 0) (.c (str [110, 111, 116]))) (.t 7) (.c (.bool false)))),
    (.set 2 (.o3 .pick (.o2 (.bin .neq) (.t 0) (.c (str [110, 111, 116]))) (.t 7) (.c (.bool false))))]) .ret))
def symIsName_E : Res := [(none, (.t 2))]
theorem symIsName_C : Tryd.f28.body.bind (comp Tryd.prog symIsName_M Tryd.f28.ntmps) = some symIsName_S := by kernel_rfl
theorem symIsName_R : resE Tryd.prog symIsName_M Tryd.f28.results.toList = some symIsName_E := by kernel_rfl
theorem symIsName_H (G : Ctr) (hG : GOk Tryd.prog G) (a0 : Value) {h : H} {K : Value → H → Prop} {KP : List PanicEntry → H → Prop} (Hw : wpS G symIsName_S (retQ symIsName_E (callK K KP)) (envOf 0 [a0] env0) h) : HCX Tryd.prog 28 [a0] h K KP :=
  .inl ⟨by kernel_rfl, hc_of mixed hG Tryd.func28 symIsName_C symIsName_R (of_decide_eq_true (by kernel_rfl)) Hw⟩
def symValid_M : Nat → Bool := fun i => Nat.testBit 1049655 i
def symValid_S : S :=
  (.seq (.sts [(.eff [] (some 1) (.box 46) [(.t 0)] []),
    (.set 2 (.c (.bool false)))]) (.seq (.seq (.sts [(.chk [] (.c1 (.fld 0) (.t 1))),
    (.chk [] (.c1 .ld1 (.o1 (.fld 0) (.t 1)))),
    (.set 4 (.o1 .ld1 (.o1 (.fld 0) (.t 1))))]) (.block 0 (.seq (.sts [(.chk [] (.c2 (.bin .eql) (.t 4) (.c (.int .i64 1)))),
    (.set 5 (.o2 (.bin .eql) (.t 4) (.c (.int .i64 1))))]) (.cond 5 (.seq (.sts [(.chk [] (.c1 (.fld 2) (.t 1))),
    (.chk [] (.c1 .ld1 (.o1 (.fld 2) (.t 1)))),
    (.chk [] (.c2 (.bin .eql) (.o1 .ld1 (.o1 (.fld 2) (.t 1))) (.c (str [])))),
    (.set 2 (.o2 (.bin .eql) (.o1 .ld1 (.o1 (.fld 2) (.t 1))) (.c (str []))))]) .ret) (.seq (.sts [(.chk [] (.c2 (.bin .eql) (.t 4) (.c (.int .i64 2)))),
    (.set 10 (.o2 (.bin .eql) (.t 4) (.c (.int .i64 2))))]) (.cond 10 (.seq (.sts [(.chk [] (.c1 (.fld 1) (.t 1))),
    (.chk [] (.c1 .ld1 (.o1 (.fld 1) (.t 1)))),
    (.chk [] (.c2 (.bin .eql) (.o1 .ld1 (.o1 (.fld 1) (.t 1))) (.c (.int .i64 0)))),
    (.chk [((.o2 (.bin .eql) (.o1 .ld1 (.o1 (.fld 1) (.t 1))) (.c (.int .i64 0))), true)] (.c1 (.fld 2) (.t 1))),
    (.chk [((.o2 (.bin .eql) (.o1 .ld1 (.o1 (.fld 1) (.t 1))) (.c (.int .i64 0))), true)] (.c1 .ld1 (.o1 (.fld 2) (.t 1)))),
    (.set 17 (.o1 .ld1 (.o1 (.fld 2) (.t 1)))),
    (.set 15 (.o2 (.bin .eql) (.o1 .ld1 (.o1 (.fld 1) (.t 1))) (.c (.int .i64 0)))),
    (.eff [((.t 15), true)] (some 18) (.call 28) [(.t 17)] []),
    (.chk [] (.c3 .pick (.t 15) (.t 18) (.c (.bool false)))),
    (.set 2 (.o3 .pick (.t 15) (.t 18) (.c (.bool false))))]) .ret) (.seq (.sts [(.chk [] (.c2 (.bin .eql) (.t 4) (.c (.int .i64 3)))),
    (.set 20 (.o2 (.bin .eql) (.t 4) (.c (.int .i64 3))))]) (.cond 20 (.seq (.sts [(.chk [] (.c1 (.fld 1) (.t 1))),
    (.chk [] (.c1 .ld1 (.o1 (.fld 1) (.t 1)))),
    (.chk [] (.c2 (.bin .eql) (.o1 .ld1 (.o1 (.fld 1) (.t 1))) (.c (.int .i64 0)))),
    (.chk [((.o2 (.bin .eql) (.o1 .ld1 (.o1 (.fld 1) (.t 1))) (.c (.int .i64 0))), true)] (.c1 (.fld 2) (.t 1))),
    (.chk [((.o2 (.bin .eql) (.o1 .ld1 (.o1 (.fld 1) (.t 1))) (.c (.int .i64 0))), true)] (.c1 .ld1 (.o1 (.fld 2) (.t 1)))),
    (.chk [((.o2 (.bin .eql) (.o1 .ld1 (.o1 (.fld 1) (.t 1))) (.c (.int .i64 0))), true)] (.c1 .lens (.o1 .ld1 (.o1 (.fld 2) (.t 1))))),
    (.chk [((.o2 (.bin .eql) (.o1 .ld1 (.o1 (.fld 1) (.t 1))) (.c (.int .i64 0))), true)] (.c2 (.bin .leq) (.o1 .lens (.o1 .ld1 (.o1 (.fld 2) (.t 1)))) (.c (.int .i64 255)))),
    (.chk [] (.c3 .pick (.o2 (.bin .eql) (.o1 .ld1 (.o1 (.fld 1) (.t 1))) (.c (.int .i64 0))) (.o2 (.bin .leq) (.o1 .lens (.o1 .ld1 (.o1 (.fld 2) (.t 1)))) (.c (.int .i64 255))) (.c (.bool false)))),
    (.set 2 (.o3 .pick (.o2 (.bin .eql) (.o1 .ld1 (.o1 (.fld 1) (.t 1))) (.c (.int .i64 0))) (.o2 (.bin .leq) (.o1 .lens (.o1 .ld1 (.o1 (.fld 2) (.t 1)))) (.c (.int .i64 255))) (.c (.bool false))))]) .ret) .skip)))))))) (.seq (.sts [(.set 2 (.c (.bool false)))]) .ret)))
def symValid_E : Res := [(none, (.t 2))]
theorem symValid_C : Tryd.f42.body.bind (comp Tryd.prog symValid_M Tryd.f42.ntmps) = some symValid_S := by kernel_rfl
theorem symValid_R : resE Tryd.prog symValid_M Tryd.f42.results.toList = some symValid_E := by kernel_rfl
theorem symValid_H (G : Ctr) (hG : GOk Tryd.prog G) (a0 : Value) {h : H} {K : Value → H → Prop} {KP : List PanicEntry → H → Prop} (Hw : wpS G symValid_S (retQ symValid_E (callK K KP)) (envOf 0 [a0] env0) h) : HCX Tryd.prog 42 [a0] h K KP :=
  .inl ⟨by kernel_rfl, hc_of mixed hG Tryd.func42 symValid_C symValid_R (of_decide_eq_true (by kernel_rfl)) Hw⟩
def prWellConst_M : Nat → Bool := fun i => Nat.testBit 39 i
def prWellConst_S : S :=
  (.seq (.sts [(.eff [] (some 1) (.box 46) [(.t 0)] []),
    (.set 2 (.c (.int .i64 0)))]) (.seq (.seq (.sts [(.chk [] (.c1 (.ldn 3) (.t 1))),
    (.set 3 (.o1 (.ldn 3) (.t 1))),
    (.eff [] (some 4) (.call 42) [(.t 3)] []),
    (.chk [] (.c1 .not (.t 4))),
    (.set 5 (.o1 .not (.t 4)))]) (.cond 5 (.seq (.sts [(.set 2 (.c (.int .i64 5)))]) .ret) .skip)) (.seq (.sts [(.set 2 (.c (.int .i64 0)))]) .ret)))
def prWellConst_E : Res := [(none, (.t 2))]
theorem prWellConst_C : Tryd.f30.body.bind (comp Tryd.prog prWellConst_M Tryd.f30.ntmps) = some prWellConst_S := by kernel_rfl
theorem prWellConst_R : resE Tryd.prog prWellConst_M Tryd.f30.results.toList = some prWellConst_E := by kernel_rfl
theorem prWellConst_H (G : Ctr) (hG : GOk Tryd.prog G) (a0 : Value) {h : H} {K : Value → H → Prop} {KP : List PanicEntry → H → Prop} (Hw : wpS G prWellConst_S (retQ prWellConst_E (callK K KP)) (envOf 0 [a0] env0) h) : HCX Tryd.prog 30 [a0] h K KP :=
  .inl ⟨by kernel_rfl, hc_of mixed hG Tryd.func30 prWellConst_C prWellConst_R (of_decide_eq_true (by kernel_rfl)) Hw⟩
def prFirstK_M : Nat → Bool := fun i => Nat.testBit 266195 i
def prFirstK_L1 : S :=
  (.seq (.sts [(.chk [] (.c2 (.bin .lss) (.t 10) (.t 9))),
    (.set 11 (.o2 (.bin .lss) (.t 10) (.t 9)))]) (.seq (.cond 11 .skip (.exit 0)) (.seq (.block 1 (.seq (.sts [(.chk [] (.c2 (.idxA 3) (.t 8) (.t 10))),
    (.chk [] (.c1 (.ldn 3) (.o2 (.idxA 3) (.t 8) (.t 10)))),
    (.set 13 (.o1 (.ldn 3) (.o2 (.idxA 3) (.t 8) (.t 10)))),
    (.eff [] (some 6) (.alloc 46 #[(.int .i64 0), (.int .i64 0), (str [])]) [] []),
    (.eff [] none (.store 3) [(.t 6), (.t 13)] [])]) (.seq (.sts [(.chk [] (.c1 (.ldn 3) (.t 6))),
    (.set 15 (.o1 (.ldn 3) (.t 6))),
    (.eff [] (some 16) .callv [(.t 1), (.t 15)] []),
    (.set 7 (.t 16))]) (.seq (.sts [(.chk [] (.c2 (.bin .neq) (.t 7) (.c (.int .i64 0)))),
    (.set 18 (.o2 (.bin .neq) (.t 7) (.c (.int .i64 0))))]) (.cond 18 (.seq (.sts [(.set 4 (.t 7))]) .ret) .skip))))) (.sts [(.chk [] (.c2 (.bin .add) (.t 10) (.c (.int .i64 1)))),
    (.set 20 (.o2 (.bin .add) (.t 10) (.c (.int .i64 1)))),
    (.set 10 (.t 20))]))))
def prFirstK_S : S :=
  (.seq (.sts [(.set 4 (.c (.int .i64 0)))]) (.seq (.seq (.sts [(.set 8 (.t 0)),
    (.chk [] (.c1 .len (.t 8))),
    (.set 9 (.o1 .len (.t 8))),
    (.set 10 (.c (.int .i64 0)))]) (.block 0 (.loop prFirstK_L1))) (.seq (.sts [(.set 4 (.c (.int .i64 0)))]) .ret)))
def prFirstK_E : Res := [(none, (.t 4))]
theorem prFirstK_C : Tryd.f29.body.bind (comp Tryd.prog prFirstK_M Tryd.f29.ntmps) = some prFirstK_S := by kernel_rfl
theorem prFirstK_R : resE Tryd.prog prFirstK_M Tryd.f29.results.toList = some prFirstK_E := by kernel_rfl
theorem prFirstK_H (G : Ctr) (hG : GOk Tryd.prog G) (a0 : Value) (a1 : Value) {h : H} {K : Value → H → Prop} {KP : List PanicEntry → H → Prop} (Hw : wpS G prFirstK_S (retQ prFirstK_E (callK K KP)) (envOf 0 [a0, a1] env0) h) : HCX Tryd.prog 29 [a0, a1] h K KP :=
  .inl ⟨by kernel_rfl, hc_of mixed hG Tryd.func29 prFirstK_C prFirstK_R (of_decide_eq_true (by kernel_rfl)) Hw⟩
def prWellFact_M : Nat → Bool := fun i => Nat.testBit 271 i
def prWellFact_S : S :=
  (.seq (.sts [(.eff [] (some 1) (.box 28) [(.t 0)] []),
    (.set 2 (.c (.int .i64 0)))]) (.seq (.block 0 (.seq (.sts [(.chk [] (.c1 (.fld 0) (.t 1))),
    (.chk [] (.c1 .ld1 (.o1 (.fld 0) (.t 1)))),
    (.set 5 (.o1 .ld1 (.o1 (.fld 0) (.t 1)))),
    (.eff [] (some 6) (.call 28) [(.t 5)] []),
    (.chk [] (.c1 .not (.t 6))),
    (.set 3 (.o1 .not (.t 6)))]) (.cond 3 (.seq (.sts [(.set 2 (.c (.int .i64 14)))]) .ret) (.seq (.sts [(.chk [] (.c1 (.fld 1) (.t 1))),
    (.chk [] (.c1 .ld1 (.o1 (.fld 1) (.t 1)))),
    (.chk [] (.c1 .len (.o1 .ld1 (.o1 (.fld 1) (.t 1))))),
    (.chk [] (.c2 (.bin .gtr) (.o1 .len (.o1 .ld1 (.o1 (.fld 1) (.t 1)))) (.c (.int .i64 8)))),
    (.set 8 (.o2 (.bin .gtr) (.o1 .len (.o1 .ld1 (.o1 (.fld 1) (.t 1)))) (.c (.int .i64 8))))]) (.cond 8 (.seq (.sts [(.set 2 (.c (.int .i64 22)))]) .ret) .skip))))) (.seq (.sts [(.chk [] (.c1 (.fld 1) (.t 1))),
    (.chk [] (.c1 .ld1 (.o1 (.fld 1) (.t 1)))),
    (.set 14 (.o1 .ld1 (.o1 (.fld 1) (.t 1)))),
    (.eff [] (some 15) (.call 29) [(.t 14), (.c (.func (.func 30) #[] #[]))] []),
    (.set 2 (.t 15))]) .ret)))
def prWellFact_E : Res := [(none, (.t 2))]
theorem prWellFact_C : Tryd.f14.body.bind (comp Tryd.prog prWellFact_M Tryd.f14.ntmps) = some prWellFact_S := by kernel_rfl
theorem prWellFact_R : resE Tryd.prog prWellFact_M Tryd.f14.results.toList = some prWellFact_E := by kernel_rfl
theorem prWellFact_H (G : Ctr) (hG : GOk Tryd.prog G) (a0 : Value) {h : H} {K : Value → H → Prop} {KP : List PanicEntry → H → Prop} (Hw : wpS G prWellFact_S (retQ prWellFact_E (callK K KP)) (envOf 0 [a0] env0) h) : HCX Tryd.prog 14 [a0] h K KP :=
  .inl ⟨by kernel_rfl, hc_of mixed hG Tryd.func14 prWellFact_C prWellFact_R (of_decide_eq_true (by kernel_rfl)) Hw⟩
def syText_M : Nat → Bool := fun i => Nat.testBit 8615 i
def syText_S : S :=
  (.seq (.sts [(.eff [] (some 1) (.box 46) [(.t 0)] []),
    (.set 2 (.c (str [])))]) (.seq (.seq (.sts [(.chk [] (.c1 (.ldn 3) (.t 1))),
    (.set 3 (.o1 (.ldn 3) (.t 1))),
    (.eff [] (some 4) (.call 42) [(.t 3)] []),
    (.chk [] (.c1 .not (.t 4))),
    (.set 5 (.o1 .not (.t 4)))]) (.cond 5 (.seq (.sts [(.set 2 (.c (str [])))]) .ret) .skip)) (.seq (.seq (.sts [(.chk [] (.c1 (.fld 0) (.t 1))),
    (.chk [] (.c1 .ld1 (.o1 (.fld 0) (.t 1)))),
    (.set 7 (.o1 .ld1 (.o1 (.fld 0) (.t 1))))]) (.block 0 (.seq (.sts [(.chk [] (.c2 (.bin .eql) (.t 7) (.c (.int .i64 1)))),
    (.set 8 (.o2 (.bin .eql) (.t 7) (.c (.int .i64 1))))]) (.cond 8 (.seq (.sts [(.chk [] (.c1 (.fld 1) (.t 1))),
    (.chk [] (.c1 .ld1 (.o1 (.fld 1) (.t 1)))),
    (.set 11 (.o1 .ld1 (.o1 (.fld 1) (.t 1)))),
    (.eff [] (some 12) (.call 110) [(.t 11), (.c (.int .i64 10))] []),
    (.set 2 (.t 12))]) .ret) (.seq (.sts [(.chk [] (.c2 (.bin .eql) (.t 7) (.c (.int .i64 2)))),
    (.set 13 (.o2 (.bin .eql) (.t 7) (.c (.int .i64 2))))]) (.cond 13 (.seq (.sts [(.chk [] (.c1 (.fld 2) (.t 1))),
    (.chk [] (.c1 .ld1 (.o1 (.fld 2) (.t 1)))),
    (.set 2 (.o1 .ld1 (.o1 (.fld 2) (.t 1))))]) .ret) .skip)))))) (.seq (.sts [(.chk [] (.c1 (.fld 2) (.t 1))),
    (.chk [] (.c1 .ld1 (.o1 (.fld 2) (.t 1)))),
    (.set 18 (.o1 .ld1 (.o1 (.fld 2) (.t 1)))),
    (.eff [] (some 19) (.call 111) [(.t 18)] []),
    (.set 2 (.t 19))]) .ret))))
def syText_E : Res := [(none, (.t 2))]
theorem syText_C : Tryd.f109.body.bind (comp Tryd.prog syText_M Tryd.f109.ntmps) = some syText_S := by kernel_rfl
theorem syText_R : resE Tryd.prog syText_M Tryd.f109.results.toList = some syText_E := by kernel_rfl
theorem syText_H (G : Ctr) (hG : GOk Tryd.prog G) (a0 : Value) {h : H} {K : Value → H → Prop} {KP : List PanicEntry → H → Prop} (Hw : wpS G syText_S (retQ syText_E (callK K KP)) (envOf 0 [a0] env0) h) : HCX Tryd.prog 109 [a0] h K KP :=
  .inl ⟨by kernel_rfl, hc_of mixed hG Tryd.func109 syText_C syText_R (of_decide_eq_true (by kernel_rfl)) Hw⟩
def syQuoted_M : Nat → Bool := fun i => Nat.testBit 4362083949 i
def syQuoted_L1 : S :=
  (.seq (.sts [(.chk [] (.c2 (.bin .lss) (.t 11) (.t 10))),
    (.set 12 (.o2 (.bin .lss) (.t 11) (.t 10)))]) (.seq (.cond 12 .skip (.exit 0)) (.seq (.block 1 (.seq (.sts [(.chk [] (.c2 (.idxA 1) (.t 9) (.t 11))),
    (.chk [] (.c1 .ld1 (.o2 (.idxA 1) (.t 9) (.t 11)))),
    (.set 5 (.o1 .ld1 (.o2 (.idxA 1) (.t 9) (.t 11))))]) (.seq (.sts [(.eff [] (some 16) (.call 112) [(.t 5)] []),
    (.set 6 (.t 16))]) (.block 2 (.seq (.sts [(.chk [] (.c2 (.bin .neq) (.t 6) (.c (.int .u8 0)))),
    (.set 26 (.o2 (.bin .neq) (.t 6) (.c (.int .u8 0))))]) (.cond 26 (.sts [(.eff [] (some 30) (.bsl 5 1 2 [(.int .u8 0), (.int .u8 0)] [0, 1]) [(.c (.int .u8 92)), (.t 6)] []),
    (.eff [] (some 31) (.call 113) [(.t 3), (.t 30)] [])]) (.seq (.sts [(.chk [] (.c2 (.bin .geq) (.t 5) (.c (.int .u8 32)))),
    (.chk [((.o2 (.bin .geq) (.t 5) (.c (.int .u8 32))), true)] (.c2 (.bin .leq) (.t 5) (.c (.int .u8 126)))),
    (.chk [] (.c3 .pick (.o2 (.bin .geq) (.t 5) (.c (.int .u8 32))) (.o2 (.bin .leq) (.t 5) (.c (.int .u8 126))) (.c (.bool false)))),
    (.set 32 (.o3 .pick (.o2 (.bin .geq) (.t 5) (.c (.int .u8 32))) (.o2 (.bin .leq) (.t 5) (.c (.int .u8 126))) (.c (.bool false))))]) (.cond 32 (.sts [(.eff [] (some 40) (.call 43) [(.t 3), (.t 5)] [])]) (.seq (.sts [(.eff [] (some 17) (.call 16) [(.t 3), (.c (str [92, 120]))] [])]) (.seq (.sts [(.chk [] (.c2 (.bits .shr) (.t 5) (.c (.int .u64 4)))),
    (.chk [] (.c2 .idxS (.c (str [48, 49, 50, 51, 52, 53, 54, 55, 56, 57, 97, 98, 99, 100, 101, 102])) (.o2 (.bits .shr) (.t 5) (.c (.int .u64 4))))),
    (.eff [] (some 21) (.call 43) [(.t 3), (.o2 .idxS (.c (str [48, 49, 50, 51, 52, 53, 54, 55, 56, 57, 97, 98, 99, 100, 101, 102])) (.o2 (.bits .shr) (.t 5) (.c (.int .u64 4))))] [])]) (.sts [(.chk [] (.c2 (.bits .and) (.t 5) (.c (.int .u8 15)))),
    (.chk [] (.c2 .idxS (.c (str [48, 49, 50, 51, 52, 53, 54, 55, 56, 57, 97, 98, 99, 100, 101, 102])) (.o2 (.bits .and) (.t 5) (.c (.int .u8 15))))),
    (.eff [] (some 25) (.call 43) [(.t 3), (.o2 .idxS (.c (str [48, 49, 50, 51, 52, 53, 54, 55, 56, 57, 97, 98, 99, 100, 101, 102])) (.o2 (.bits .and) (.t 5) (.c (.int .u8 15))))] [])]))))))))))) (.sts [(.chk [] (.c2 (.bin .add) (.t 11) (.c (.int .i64 1)))),
    (.set 41 (.o2 (.bin .add) (.t 11) (.c (.int .i64 1)))),
    (.set 11 (.t 41))]))))
def syQuoted_S : S :=
  (.seq (.sts [(.set 2 (.c (str [])))]) (.seq (.sts [(.eff [] (some 3) (.alloc 51 #[(.pointer none), (.slice none 0 0)]) [] [])]) (.seq (.sts [(.eff [] (some 7) (.call 43) [(.t 3), (.c (.int .u8 34))] [])]) (.seq (.seq (.sts [(.eff [] (some 9) (.s2b 5) [(.t 0)] []),
    (.chk [] (.c1 .len (.t 9))),
    (.set 10 (.o1 .len (.t 9))),
    (.set 11 (.c (.int .i64 0)))]) (.block 0 (.loop syQuoted_L1))) (.seq (.sts [(.eff [] (some 42) (.call 43) [(.t 3), (.c (.int .u8 34))] [])]) (.seq (.sts [(.eff [] (some 43) (.call 17) [(.t 3)] []),
    (.set 2 (.t 43))]) .ret))))))
def syQuoted_E : Res := [(none, (.t 2))]
theorem syQuoted_C : Tryd.f111.body.bind (comp Tryd.prog syQuoted_M Tryd.f111.ntmps) = some syQuoted_S := by kernel_rfl
theorem syQuoted_R : resE Tryd.prog syQuoted_M Tryd.f111.results.toList = some syQuoted_E := by kernel_rfl
theorem syQuoted_H (G : Ctr) (hG : GOk Tryd.prog G) (a0 : Value) {h : H} {K : Value → H → Prop} {KP : List PanicEntry → H → Prop} (Hw : wpS G syQuoted_S (retQ syQuoted_E (callK K KP)) (envOf 0 [a0] env0) h) : HCX Tryd.prog 111 [a0] h K KP :=
  .inl ⟨by kernel_rfl, hc_of mixed hG Tryd.func111 syQuoted_C syQuoted_R (of_decide_eq_true (by kernel_rfl)) Hw⟩
def syLetter_M : Nat → Bool := fun i => Nat.testBit 5405 i
def syLetter_S : S :=
  (.seq (.sts [(.set 2 (.c (.int .u8 0)))]) (.seq (.seq (.sts [(.set 3 (.t 0))]) (.block 0 (.seq (.seq (.sts [(.chk [] (.c2 (.bin .eql) (.t 3) (.c (.int .u8 34)))),
    (.set 4 (.o2 (.bin .eql) (.t 3) (.c (.int .u8 34))))]) (.cond 4 .skip (.sts [(.chk [] (.c2 (.bin .eql) (.t 3) (.c (.int .u8 92)))),
    (.set 4 (.o2 (.bin .eql) (.t 3) (.c (.int .u8 92))))]))) (.cond 4 (.seq (.sts [(.set 2 (.t 0))]) .ret) (.seq (.sts [(.chk [] (.c2 (.bin .eql) (.t 3) (.c (.int .u8 10)))),
    (.set 8 (.o2 (.bin .eql) (.t 3) (.c (.int .u8 10))))]) (.cond 8 (.seq (.sts [(.set 2 (.c (.int .u8 110)))]) .ret) (.seq (.sts [(.chk [] (.c2 (.bin .eql) (.t 3) (.c (.int .u8 9)))),
    (.set 10 (.o2 (.bin .eql) (.t 3) (.c (.int .u8 9))))]) (.cond 10 (.seq (.sts [(.set 2 (.c (.int .u8 116)))]) .ret) (.seq (.sts [(.chk [] (.c2 (.bin .eql) (.t 3) (.c (.int .u8 13)))),
    (.set 12 (.o2 (.bin .eql) (.t 3) (.c (.int .u8 13))))]) (.cond 12 (.seq (.sts [(.set 2 (.c (.int .u8 114)))]) .ret) .skip)))))))))) (.seq (.sts [(.set 2 (.c (.int .u8 0)))]) .ret)))
def syLetter_E : Res := [(none, (.t 2))]
theorem syLetter_C : Tryd.f112.body.bind (comp Tryd.prog syLetter_M Tryd.f112.ntmps) = some syLetter_S := by kernel_rfl
theorem syLetter_R : resE Tryd.prog syLetter_M Tryd.f112.results.toList = some syLetter_E := by kernel_rfl
theorem syLetter_H (G : Ctr) (hG : GOk Tryd.prog G) (a0 : Value) {h : H} {K : Value → H → Prop} {KP : List PanicEntry → H → Prop} (Hw : wpS G syLetter_S (retQ syLetter_E (callK K KP)) (envOf 0 [a0] env0) h) : HCX Tryd.prog 112 [a0] h K KP :=
  .inl ⟨by kernel_rfl, hc_of mixed hG Tryd.func112 syLetter_C syLetter_R (of_decide_eq_true (by kernel_rfl)) Hw⟩
def sbWriteString_M : Nat → Bool := fun i => Nat.testBit 51 i
def sbWriteString_S : S :=
  (.seq (.sts [(.set 4 (.c (.int .i64 0))),
    (.set 5 (.c .nilIface))]) (.seq (.sts [(.eff [] (some 7) (.call 34) [(.t 0)] [])]) (.seq (.sts [(.chk [] (.c1 .nilck (.t 0))),
    (.chk [] (.c1 (.fld 1) (.t 0))),
    (.chk [] (.c1 .ld1 (.o1 (.fld 1) (.t 0)))),
    (.set 12 (.o1 .ld1 (.o1 (.fld 1) (.t 0)))),
    (.eff [] (some 14) (.apps 5) [(.t 12), (.t 1)] []),
    (.chk [] (.c1 .nilck (.t 0))),
    (.chk [] (.c1 (.fld 1) (.t 0))),
    (.eff [] none (.store 1) [(.o1 (.fld 1) (.t 0)), (.t 14)] [])]) (.seq (.sts [(.chk [] (.c1 .lens (.t 1))),
    (.set 4 (.o1 .lens (.t 1))),
    (.set 5 (.c .nilIface))]) .ret))))
def sbWriteString_E : Res := [(none, (.t 4)), (none, (.t 5))]
theorem sbWriteString_C : Tryd.f16.body.bind (comp Tryd.prog sbWriteString_M Tryd.f16.ntmps) = some sbWriteString_S := by kernel_rfl
theorem sbWriteString_R : resE Tryd.prog sbWriteString_M Tryd.f16.results.toList = some sbWriteString_E := by kernel_rfl
theorem sbWriteString_H (G : Ctr) (hG : GOk Tryd.prog G) (a0 : Value) (a1 : Value) {h : H} {K : Value → H → Prop} {KP : List PanicEntry → H → Prop} (Hw : wpS G sbWriteString_S (retQ sbWriteString_E (callK K KP)) (envOf 0 [a0, a1] env0) h) : HCX Tryd.prog 16 [a0, a1] h K KP :=
  .inl ⟨by kernel_rfl, hc_of mixed hG Tryd.func16 sbWriteString_C sbWriteString_R (of_decide_eq_true (by kernel_rfl)) Hw⟩
def sbWriteByte_M : Nat → Bool := fun i => Nat.testBit 19 i
def sbWriteByte_S : S :=
  (.seq (.sts [(.set 4 (.c .nilIface))]) (.seq (.sts [(.eff [] (some 6) (.call 34) [(.t 0)] [])]) (.seq (.sts [(.chk [] (.c1 .nilck (.t 0))),
    (.chk [] (.c1 (.fld 1) (.t 0))),
    (.chk [] (.c1 .ld1 (.o1 (.fld 1) (.t 0)))),
    (.set 11 (.o1 .ld1 (.o1 (.fld 1) (.t 0)))),
    (.eff [] (some 13) (.bsl 5 1 1 [(.int .u8 0)] [0]) [(.t 1)] []),
    (.eff [] (some 14) (.app 5 1 1 [(.int .u8 0)]) [(.t 11), (.t 13)] []),
    (.chk [] (.c1 .nilck (.t 0))),
    (.chk [] (.c1 (.fld 1) (.t 0))),
    (.eff [] none (.store 1) [(.o1 (.fld 1) (.t 0)), (.t 14)] [])]) (.seq (.sts [(.set 4 (.c .nilIface))]) .ret))))
def sbWriteByte_E : Res := [(none, (.t 4))]
theorem sbWriteByte_C : Tryd.f43.body.bind (comp Tryd.prog sbWriteByte_M Tryd.f43.ntmps) = some sbWriteByte_S := by kernel_rfl
theorem sbWriteByte_R : resE Tryd.prog sbWriteByte_M Tryd.f43.results.toList = some sbWriteByte_E := by kernel_rfl
theorem sbWriteByte_H (G : Ctr) (hG : GOk Tryd.prog G) (a0 : Value) (a1 : Value) {h : H} {K : Value → H → Prop} {KP : List PanicEntry → H → Prop} (Hw : wpS G sbWriteByte_S (retQ sbWriteByte_E (callK K KP)) (envOf 0 [a0, a1] env0) h) : HCX Tryd.prog 43 [a0, a1] h K KP :=
  .inl ⟨by kernel_rfl, hc_of mixed hG Tryd.func43 sbWriteByte_C sbWriteByte_R (of_decide_eq_true (by kernel_rfl)) Hw⟩
def sbWrite_M : Nat → Bool := fun i => Nat.testBit 51 i
def sbWrite_S : S :=
  (.seq (.sts [(.set 4 (.c (.int .i64 0))),
    (.set 5 (.c .nilIface))]) (.seq (.sts [(.eff [] (some 7) (.call 34) [(.t 0)] [])]) (.seq (.sts [(.chk [] (.c1 .nilck (.t 0))),
    (.chk [] (.c1 (.fld 1) (.t 0))),
    (.chk [] (.c1 .ld1 (.o1 (.fld 1) (.t 0)))),
    (.set 12 (.o1 .ld1 (.o1 (.fld 1) (.t 0)))),
    (.eff [] (some 14) (.app 5 1 1 [(.int .u8 0)]) [(.t 12), (.t 1)] []),
    (.chk [] (.c1 .nilck (.t 0))),
    (.chk [] (.c1 (.fld 1) (.t 0))),
    (.eff [] none (.store 1) [(.o1 (.fld 1) (.t 0)), (.t 14)] [])]) (.seq (.sts [(.chk [] (.c1 .len (.t 1))),
    (.set 4 (.o1 .len (.t 1))),
    (.set 5 (.c .nilIface))]) .ret))))
def sbWrite_E : Res := [(none, (.t 4)), (none, (.t 5))]
theorem sbWrite_C : Tryd.f113.body.bind (comp Tryd.prog sbWrite_M Tryd.f113.ntmps) = some sbWrite_S := by kernel_rfl
theorem sbWrite_R : resE Tryd.prog sbWrite_M Tryd.f113.results.toList = some sbWrite_E := by kernel_rfl
theorem sbWrite_H (G : Ctr) (hG : GOk Tryd.prog G) (a0 : Value) (a1 : Value) {h : H} {K : Value → H → Prop} {KP : List PanicEntry → H → Prop} (Hw : wpS G sbWrite_S (retQ sbWrite_E (callK K KP)) (envOf 0 [a0, a1] env0) h) : HCX Tryd.prog 113 [a0, a1] h K KP :=
  .inl ⟨by kernel_rfl, hc_of mixed hG Tryd.func113 sbWrite_C sbWrite_R (of_decide_eq_true (by kernel_rfl)) Hw⟩
def prValueW_M : Nat → Bool := fun i => Nat.testBit 7 i
def prValueW_S : S :=
  (.seq (.sts [(.eff [] (some 2) (.box 82) [(.t 0)] [])]) (.sts [(.chk [] (.c1 (.ldn 3) (.t 2))),
    (.set 5 (.o1 (.ldn 3) (.t 2))),
    (.eff [] (some 6) (.call 109) [(.t 5)] []),
    (.eff [] (some 7) (.call 16) [(.t 1), (.t 6)] [])]))
def prValueW_E : Res := []
theorem prValueW_C : Tryd.f108.body.bind (comp Tryd.prog prValueW_M Tryd.f108.ntmps) = some prValueW_S := by kernel_rfl
theorem prValueW_R : resE Tryd.prog prValueW_M Tryd.f108.results.toList = some prValueW_E := by kernel_rfl
theorem prValueW_H (G : Ctr) (hG : GOk Tryd.prog G) (a0 : Value) (a1 : Value) {h : H} {K : Value → H → Prop} {KP : List PanicEntry → H → Prop} (Hw : wpS G prValueW_S (retQ prValueW_E (callK K KP)) (envOf 0 [a0, a1] env0) h) : HCX Tryd.prog 108 [a0, a1] h K KP :=
  .inl ⟨by kernel_rfl, hc_of mixed hG Tryd.func108 prValueW_C prValueW_R (of_decide_eq_true (by kernel_rfl)) Hw⟩
def prFactW_M : Nat → Bool := fun i => Nat.testBit 7 i
def prFactW_S : S :=
  (.seq (.sts [(.eff [] (some 2) (.box 53) [(.t 0)] [])]) (.sts [(.chk [] (.c1 (.fld 0) (.t 2))),
    (.chk [] (.c1 .ld1 (.o1 (.fld 0) (.t 2)))),
    (.chk [] (.c1 (.fld 1) (.t 2))),
    (.chk [] (.c1 .ld1 (.o1 (.fld 1) (.t 2)))),
    (.set 8 (.o1 .ld1 (.o1 (.fld 1) (.t 2)))),
    (.set 6 (.o1 .ld1 (.o1 (.fld 0) (.t 2)))),
    (.eff [] (some 9) (.call 32) [(.t 8), (.c (.func (.func 33) #[] #[]))] [([], ((.o1 (.fld 0) (.t 2)), none))]),
    (.eff [] (some 10) (.call 31) [(.t 1), (.t 6), (.t 9)] [])]))
def prFactW_E : Res := []
theorem prFactW_C : Tryd.f15.body.bind (comp Tryd.prog prFactW_M Tryd.f15.ntmps) = some prFactW_S := by kernel_rfl
theorem prFactW_R : resE Tryd.prog prFactW_M Tryd.f15.results.toList = some prFactW_E := by kernel_rfl
theorem prFactW_H (G : Ctr) (hG : GOk Tryd.prog G) (a0 : Value) (a1 : Value) {h : H} {K : Value → H → Prop} {KP : List PanicEntry → H → Prop} (Hw : wpS G prFactW_S (retQ prFactW_E (callK K KP)) (envOf 0 [a0, a1] env0) h) : HCX Tryd.prog 15 [a0, a1] h K KP :=
  .inl ⟨by kernel_rfl, hc_of mixed hG Tryd.func15 prFactW_C prFactW_R (of_decide_eq_true (by kernel_rfl)) Hw⟩
def prFactF_M : Nat → Bool := fun i => Nat.testBit 7 i
def prFactF_S : S :=
  (.seq (.sts [(.eff [] (some 1) (.box 46) [(.t 0)] []),
    (.set 2 (.c .nilIface))]) (.seq (.sts [(.chk [] (.c1 (.ldn 3) (.t 1))),
    (.chk [] (.c1 (.mki 82) (.o1 (.ldn 3) (.t 1)))),
    (.set 2 (.o1 (.mki 82) (.o1 (.ldn 3) (.t 1))))]) .ret))
def prFactF_E : Res := [(none, (.t 2))]
theorem prFactF_C : Tryd.f33.body.bind (comp Tryd.prog prFactF_M Tryd.f33.ntmps) = some prFactF_S := by kernel_rfl
theorem prFactF_R : resE Tryd.prog prFactF_M Tryd.f33.results.toList = some prFactF_E := by kernel_rfl
theorem prFactF_H (G : Ctr) (hG : GOk Tryd.prog G) (a0 : Value) {h : H} {K : Value → H → Prop} {KP : List PanicEntry → H → Prop} (Hw : wpS G prFactF_S (retQ prFactF_E (callK K KP)) (envOf 0 [a0] env0) h) : HCX Tryd.prog 33 [a0] h K KP :=
  .inl ⟨by kernel_rfl, hc_of mixed hG Tryd.func33 prFactF_C prFactF_R (of_decide_eq_true (by kernel_rfl)) Hw⟩
def prPartsK_M : Nat → Bool := fun i => Nat.testBit 30899 i
def prPartsK_L1 : S :=
  (.seq (.sts [(.chk [] (.c2 (.bin .lss) (.t 13) (.t 12))),
    (.set 14 (.o2 (.bin .lss) (.t 13) (.t 12)))]) (.seq (.cond 14 .skip (.exit 0)) (.seq (.block 1 (.seq (.sts [(.chk [] (.c2 (.idxA 3) (.t 11) (.t 13))),
    (.chk [] (.c1 (.ldn 3) (.o2 (.idxA 3) (.t 11) (.t 13)))),
    (.set 16 (.o1 (.ldn 3) (.o2 (.idxA 3) (.t 11) (.t 13)))),
    (.eff [] (some 7) (.alloc 46 #[(.int .i64 0), (.int .i64 0), (str [])]) [] []),
    (.eff [] none (.store 3) [(.t 7), (.t 16)] [])]) (.sts [(.chk [] (.c1 (.ldn 3) (.t 7))),
    (.set 19 (.o1 (.ldn 3) (.t 7))),
    (.eff [] (some 20) .callv [(.t 1), (.t 19)] []),
    (.eff [] (some 21) (.bsl 81 1 1 [.nilIface] [0]) [(.t 20)] []),
    (.eff [] (some 22) (.app 81 1 16 [.nilIface]) [(.t 5), (.t 21)] []),
    (.set 5 (.t 22))]))) (.sts [(.chk [] (.c2 (.bin .add) (.t 13) (.c (.int .i64 1)))),
    (.set 23 (.o2 (.bin .add) (.t 13) (.c (.int .i64 1)))),
    (.set 13 (.t 23))]))))
def prPartsK_S : S :=
  (.seq (.sts [(.set 4 (.c (.slice none 0 0)))]) (.seq (.sts [(.chk [] (.c1 .len (.t 0))),
    (.eff [] (some 10) (.mks 81 1 16 [.nilIface]) [(.c (.int .i64 0)), (.o1 .len (.t 0))] []),
    (.set 5 (.t 10))]) (.seq (.seq (.sts [(.set 11 (.t 0)),
    (.chk [] (.c1 .len (.t 11))),
    (.set 12 (.o1 .len (.t 11))),
    (.set 13 (.c (.int .i64 0)))]) (.block 0 (.loop prPartsK_L1))) (.seq (.sts [(.set 4 (.t 5))]) .ret))))
def prPartsK_E : Res := [(none, (.t 4))]
theorem prPartsK_C : Tryd.f32.body.bind (comp Tryd.prog prPartsK_M Tryd.f32.ntmps) = some prPartsK_S := by kernel_rfl
theorem prPartsK_R : resE Tryd.prog prPartsK_M Tryd.f32.results.toList = some prPartsK_E := by kernel_rfl
theorem prPartsK_H (G : Ctr) (hG : GOk Tryd.prog G) (a0 : Value) (a1 : Value) {h : H} {K : Value → H → Prop} {KP : List PanicEntry → H → Prop} (Hw : wpS G prPartsK_S (retQ prPartsK_E (callK K KP)) (envOf 0 [a0, a1] env0) h) : HCX Tryd.prog 32 [a0, a1] h K KP :=
  .inl ⟨by kernel_rfl, hc_of mixed hG Tryd.func32 prPartsK_C prPartsK_R (of_decide_eq_true (by kernel_rfl)) Hw⟩
def prApplied_M : Nat → Bool := fun i => Nat.testBit 2055 i
def prApplied_S : S :=
  (.seq (.sts [(.eff [] (some 8) (.call 16) [(.t 0), (.t 1)] [])]) (.seq (.sts [(.chk [] (.c1 .len (.t 2))),
    (.chk [] (.c2 (.bin .gtr) (.o1 .len (.t 2)) (.c (.int .i64 0)))),
    (.set 11 (.o2 (.bin .gtr) (.o1 .len (.t 2)) (.c (.int .i64 0))))]) (.cond 11 (.seq (.sts [(.eff [] (some 13) (.call 43) [(.t 0), (.c (.int .u8 40))] [])]) (.seq (.sts [(.eff [] (some 16) (.call 44) [(.t 0), (.c (str [44, 32])), (.t 2)] [])]) (.sts [(.eff [] (some 18) (.call 43) [(.t 0), (.c (.int .u8 41))] [])]))) .skip)))
def prApplied_E : Res := []
theorem prApplied_C : Tryd.f31.body.bind (comp Tryd.prog prApplied_M Tryd.f31.ntmps) = some prApplied_S := by kernel_rfl
theorem prApplied_R : resE Tryd.prog prApplied_M Tryd.f31.results.toList = some prApplied_E := by kernel_rfl
theorem prApplied_H (G : Ctr) (hG : GOk Tryd.prog G) (a0 : Value) (a1 : Value) (a2 : Value) {h : H} {K : Value → H → Prop} {KP : List PanicEntry → H → Prop} (Hw : wpS G prApplied_S (retQ prApplied_E (callK K KP)) (envOf 0 [a0, a1, a2] env0) h) : HCX Tryd.prog 31 [a0, a1, a2] h K KP :=
  .inl ⟨by kernel_rfl, hc_of mixed hG Tryd.func31 prApplied_C prApplied_R (of_decide_eq_true (by kernel_rfl)) Hw⟩
def prBetween_M : Nat → Bool := fun i => Nat.testBit 69575 i
def prBetween_L1 : S :=
  (.seq (.sts [(.chk [] (.c2 (.bin .lss) (.t 10) (.t 9))),
    (.set 11 (.o2 (.bin .lss) (.t 10) (.t 9)))]) (.seq (.cond 11 .skip (.exit 0)) (.seq (.block 1 (.seq (.sts [(.chk [] (.c2 (.idxA 1) (.t 8) (.t 10))),
    (.chk [] (.c1 .ld1 (.o2 (.idxA 1) (.t 8) (.t 10)))),
    (.set 6 (.t 10)),
    (.set 7 (.o1 .ld1 (.o2 (.idxA 1) (.t 8) (.t 10))))]) (.seq (.seq (.sts [(.chk [] (.c2 (.bin .gtr) (.t 6) (.c (.int .i64 0)))),
    (.set 16 (.o2 (.bin .gtr) (.t 6) (.c (.int .i64 0))))]) (.cond 16 (.sts [(.eff [] (some 19) (.call 16) [(.t 0), (.t 1)] [])]) .skip)) (.sts [(.eff [] (some 22) (.inv [(53, 15), (82, 108)]) [(.t 7), (.t 0)] [])])))) (.sts [(.chk [] (.c2 (.bin .add) (.t 10) (.c (.int .i64 1)))),
    (.set 23 (.o2 (.bin .add) (.t 10) (.c (.int .i64 1)))),
    (.set 10 (.t 23))]))))
def prBetween_S : S :=
  (.seq (.sts [(.set 8 (.t 2)),
    (.chk [] (.c1 .len (.t 8))),
    (.set 9 (.o1 .len (.t 8))),
    (.set 10 (.c (.int .i64 0)))]) (.block 0 (.loop prBetween_L1)))
def prBetween_E : Res := []
theorem prBetween_C : Tryd.f44.body.bind (comp Tryd.prog prBetween_M Tryd.f44.ntmps) = some prBetween_S := by kernel_rfl
theorem prBetween_R : resE Tryd.prog prBetween_M Tryd.f44.results.toList = some prBetween_E := by kernel_rfl
theorem prBetween_H (G : Ctr) (hG : GOk Tryd.prog G) (a0 : Value) (a1 : Value) (a2 : Value) {h : H} {K : Value → H → Prop} {KP : List PanicEntry → H → Prop} (Hw : wpS G prBetween_S (retQ prBetween_E (callK K KP)) (envOf 0 [a0, a1, a2] env0) h) : HCX Tryd.prog 44 [a0, a1, a2] h K KP :=
  .inl ⟨by kernel_rfl, hc_of mixed hG Tryd.func44 prBetween_C prBetween_R (of_decide_eq_true (by kernel_rfl)) Hw⟩
def prText_M : Nat → Bool := fun i => Nat.testBit 179 i
def prText_S : S :=
  (.seq (.sts [(.set 4 (.c (str [])))]) (.seq (.seq (.sts [(.chk [] (.c2 (.bin .neq) (.t 0) (.c (.int .i64 0)))),
    (.set 7 (.o2 (.bin .neq) (.t 0) (.c (.int .i64 0))))]) (.cond 7 (.seq (.sts [(.set 4 (.c (str [])))]) .ret) .skip)) (.seq (.sts [(.eff [] (some 5) (.alloc 51 #[(.pointer none), (.slice none 0 0)]) [] [])]) (.seq (.sts [(.eff [] (some 9) (.inv [(53, 15), (82, 108)]) [(.t 1), (.t 5)] [])]) (.seq (.sts [(.eff [] (some 10) (.call 17) [(.t 5)] []),
    (.set 4 (.t 10))]) .ret)))))
def prText_E : Res := [(none, (.t 4))]
theorem prText_C : Tryd.f22.body.bind (comp Tryd.prog prText_M Tryd.f22.ntmps) = some prText_S := by kernel_rfl
theorem prText_R : resE Tryd.prog prText_M Tryd.f22.results.toList = some prText_E := by kernel_rfl
theorem prText_H (G : Ctr) (hG : GOk Tryd.prog G) (a0 : Value) (a1 : Value) {h : H} {K : Value → H → Prop} {KP : List PanicEntry → H → Prop} (Hw : wpS G prText_S (retQ prText_E (callK K KP)) (envOf 0 [a0, a1] env0) h) : HCX Tryd.prog 22 [a0, a1] h K KP :=
  .inl ⟨by kernel_rfl, hc_of mixed hG Tryd.func22 prText_C prText_R (of_decide_eq_true (by kernel_rfl)) Hw⟩
def prFact_M : Nat → Bool := fun i => Nat.testBit 7 i
def prFact_S : S :=
  (.seq (.sts [(.eff [] (some 1) (.box 28) [(.t 0)] []),
    (.set 2 (.c (str [])))]) (.seq (.sts [(.chk [] (.c1 (.ldn 2) (.t 1))),
    (.chk [] (.c1 (.ldn 2) (.t 1))),
    (.chk [] (.c1 (.mki 53) (.o1 (.ldn 2) (.t 1)))),
    (.set 6 (.o1 (.mki 53) (.o1 (.ldn 2) (.t 1)))),
    (.set 3 (.o1 (.ldn 2) (.t 1))),
    (.eff [] (some 4) (.call 14) [(.t 3)] [([], ((.t 1), (some 2)))]),
    (.eff [] (some 7) (.call 22) [(.t 4), (.t 6)] []),
    (.set 2 (.t 7))]) .ret))
def prFact_E : Res := [(none, (.t 2))]
theorem prFact_C : Tryd.f8.body.bind (comp Tryd.prog prFact_M Tryd.f8.ntmps) = some prFact_S := by kernel_rfl
theorem prFact_R : resE Tryd.prog prFact_M Tryd.f8.results.toList = some prFact_E := by kernel_rfl
theorem prFact_H (G : Ctr) (hG : GOk Tryd.prog G) (a0 : Value) {h : H} {K : Value → H → Prop} {KP : List PanicEntry → H → Prop} (Hw : wpS G prFact_S (retQ prFact_E (callK K KP)) (envOf 0 [a0] env0) h) : HCX Tryd.prog 8 [a0] h K KP :=
  .inl ⟨by kernel_rfl, hc_of mixed hG Tryd.func8 prFact_C prFact_R (of_decide_eq_true (by kernel_rfl)) Hw⟩
def prFacts_M : Nat → Bool := fun i => Nat.testBit 17389 i
def prFacts_L1 : S :=
  (.seq (.sts [(.chk [] (.c2 (.bin .lss) (.t 8) (.t 7))),
    (.set 9 (.o2 (.bin .lss) (.t 8) (.t 7)))]) (.seq (.cond 9 .skip (.exit 0)) (.seq (.block 1 (.seq (.sts [(.chk [] (.c2 (.idxA 2) (.t 6) (.t 8))),
    (.chk [] (.c1 (.ldn 2) (.o2 (.idxA 2) (.t 6) (.t 8)))),
    (.set 11 (.o1 (.ldn 2) (.o2 (.idxA 2) (.t 6) (.t 8)))),
    (.eff [] (some 5) (.alloc 28 #[(str []), (.slice none 0 0)]) [] []),
    (.eff [] none (.store 2) [(.t 5), (.t 11)] [])]) (.seq (.seq (.sts [(.chk [] (.c1 (.ldn 2) (.t 5))),
    (.set 12 (.o1 (.ldn 2) (.t 5))),
    (.eff [] (some 13) (.call 14) [(.t 12)] []),
    (.chk [] (.c2 (.bin .neq) (.t 13) (.c (.int .i64 0)))),
    (.set 14 (.o2 (.bin .neq) (.t 13) (.c (.int .i64 0))))]) (.cond 14 (.seq (.sts [(.set 2 (.c (str [])))]) .ret) .skip)) (.seq (.sts [(.chk [] (.c1 (.ldn 2) (.t 5))),
    (.set 15 (.o1 (.ldn 2) (.t 5))),
    (.eff [] (some 16) (.call 15) [(.t 15), (.t 3)] [])]) (.sts [(.eff [] (some 17) (.call 16) [(.t 3), (.c (str [46, 10]))] [])]))))) (.sts [(.chk [] (.c2 (.bin .add) (.t 8) (.c (.int .i64 1)))),
    (.set 18 (.o2 (.bin .add) (.t 8) (.c (.int .i64 1)))),
    (.set 8 (.t 18))]))))
def prFacts_S : S :=
  (.seq (.sts [(.set 2 (.c (str [])))]) (.seq (.sts [(.eff [] (some 3) (.alloc 51 #[(.pointer none), (.slice none 0 0)]) [] [])]) (.seq (.seq (.sts [(.set 6 (.t 0)),
    (.chk [] (.c1 .len (.t 6))),
    (.set 7 (.o1 .len (.t 6))),
    (.set 8 (.c (.int .i64 0)))]) (.block 0 (.loop prFacts_L1))) (.seq (.sts [(.eff [] (some 19) (.call 17) [(.t 3)] []),
    (.set 2 (.t 19))]) .ret))))
def prFacts_E : Res := [(none, (.t 2))]
theorem prFacts_C : Tryd.f5.body.bind (comp Tryd.prog prFacts_M Tryd.f5.ntmps) = some prFacts_S := by kernel_rfl
theorem prFacts_R : resE Tryd.prog prFacts_M Tryd.f5.results.toList = some prFacts_E := by kernel_rfl
theorem prFacts_H (G : Ctr) (hG : GOk Tryd.prog G) (a0 : Value) {h : H} {K : Value → H → Prop} {KP : List PanicEntry → H → Prop} (Hw : wpS G prFacts_S (retQ prFacts_E (callK K KP)) (envOf 0 [a0] env0) h) : HCX Tryd.prog 5 [a0] h K KP :=
  .inl ⟨by kernel_rfl, hc_of mixed hG Tryd.func5 prFacts_C prFacts_R (of_decide_eq_true (by kernel_rfl)) Hw⟩
def poMod_M : Nat → Bool := fun i => Nat.testBit 1075 i
def poMod_S : S :=
  (.seq (.sts [(.set 4 (.c (.int .i64 0)))]) (.seq (.sts [(.chk [] (.c2 (.bin .rem) (.t 0) (.t 1))),
    (.set 5 (.o2 (.bin .rem) (.t 0) (.t 1)))]) (.seq (.seq (.sts [(.chk [] (.c2 (.bin .lss) (.t 5) (.c (.int .i64 0)))),
    (.set 10 (.o2 (.bin .lss) (.t 5) (.c (.int .i64 0))))]) (.cond 10 (.sts [(.chk [] (.c2 (.bin .add) (.t 5) (.t 1))),
    (.set 13 (.o2 (.bin .add) (.t 5) (.t 1))),
    (.set 5 (.t 13))]) .skip)) (.seq (.sts [(.set 4 (.t 5))]) .ret))))
def poMod_E : Res := [(none, (.t 4))]
theorem poMod_C : Tryd.f27.body.bind (comp Tryd.prog poMod_M Tryd.f27.ntmps) = some poMod_S := by kernel_rfl
theorem poMod_R : resE Tryd.prog poMod_M Tryd.f27.results.toList = some poMod_E := by kernel_rfl
theorem poMod_H (G : Ctr) (hG : GOk Tryd.prog G) (a0 : Value) (a1 : Value) {h : H} {K : Value → H → Prop} {KP : List PanicEntry → H → Prop} (Hw : wpS G poMod_S (retQ poMod_E (callK K KP)) (envOf 0 [a0, a1] env0) h) : HCX Tryd.prog 27 [a0, a1] h K KP :=
  .inl ⟨by kernel_rfl, hc_of mixed hG Tryd.func27 poMod_C poMod_R (of_decide_eq_true (by kernel_rfl)) Hw⟩
def poWord_M : Nat → Bool := fun i => Nat.testBit 9007199321850611 i
def poWord_L1 : S :=
  (.seq (.seq (.sts [(.chk [] (.c1 .lens (.t 0))),
    (.chk [] (.c2 (.bin .lss) (.t 6) (.o1 .lens (.t 0)))),
    (.chk [((.o2 (.bin .lss) (.t 6) (.o1 .lens (.t 0))), true)] (.c2 (.bin .lss) (.t 6) (.c (.int .i64 64)))),
    (.chk [] (.c3 .pick (.o2 (.bin .lss) (.t 6) (.o1 .lens (.t 0))) (.o2 (.bin .lss) (.t 6) (.c (.int .i64 64))) (.c (.bool false)))),
    (.set 26 (.o3 .pick (.o2 (.bin .lss) (.t 6) (.o1 .lens (.t 0))) (.o2 (.bin .lss) (.t 6) (.c (.int .i64 64))) (.c (.bool false))))]) (.cond 26 .skip (.exit 0))) (.seq (.block 1 (.seq (.sts [(.chk [] (.c2 .idxS (.t 0) (.t 6))),
    (.set 7 (.o2 .idxS (.t 0) (.t 6)))]) (.seq (.sts [(.chk [] (.c2 (.bin .geq) (.t 7) (.c (.int .u8 97)))),
    (.chk [((.o2 (.bin .geq) (.t 7) (.c (.int .u8 97))), true)] (.c2 (.bin .leq) (.t 7) (.c (.int .u8 122)))),
    (.chk [] (.c3 .pick (.o2 (.bin .geq) (.t 7) (.c (.int .u8 97))) (.o2 (.bin .leq) (.t 7) (.c (.int .u8 122))) (.c (.bool false)))),
    (.chk [((.o3 .pick (.o2 (.bin .geq) (.t 7) (.c (.int .u8 97))) (.o2 (.bin .leq) (.t 7) (.c (.int .u8 122))) (.c (.bool false))), false)] (.c2 (.bin .geq) (.t 7) (.c (.int .u8 65)))),
    (.chk [((.o2 (.bin .geq) (.t 7) (.c (.int .u8 65))), true), ((.o3 .pick (.o2 (.bin .geq) (.t 7) (.c (.int .u8 97))) (.o2 (.bin .leq) (.t 7) (.c (.int .u8 122))) (.c (.bool false))), false)] (.c2 (.bin .leq) (.t 7) (.c (.int .u8 90)))),
    (.chk [((.o3 .pick (.o2 (.bin .geq) (.t 7) (.c (.int .u8 97))) (.o2 (.bin .leq) (.t 7) (.c (.int .u8 122))) (.c (.bool false))), false)] (.c3 .pick (.o2 (.bin .geq) (.t 7) (.c (.int .u8 65))) (.o2 (.bin .leq) (.t 7) (.c (.int .u8 90))) (.c (.bool false)))),
    (.chk [] (.c3 .pick (.o3 .pick (.o2 (.bin .geq) (.t 7) (.c (.int .u8 97))) (.o2 (.bin .leq) (.t 7) (.c (.int .u8 122))) (.c (.bool false))) (.c (.bool true)) (.o3 .pick (.o2 (.bin .geq) (.t 7) (.c (.int .u8 65))) (.o2 (.bin .leq) (.t 7) (.c (.int .u8 90))) (.c (.bool false))))),
    (.chk [((.o3 .pick (.o3 .pick (.o2 (.bin .geq) (.t 7) (.c (.int .u8 97))) (.o2 (.bin .leq) (.t 7) (.c (.int .u8 122))) (.c (.bool false))) (.c (.bool true)) (.o3 .pick (.o2 (.bin .geq) (.t 7) (.c (.int .u8 65))) (.o2 (.bin .leq) (.t 7) (.c (.int .u8 90))) (.c (.bool false)))), false)] (.c2 (.bin .geq) (.t 7) (.c (.int .u8 48)))),
    (.chk [((.o2 (.bin .geq) (.t 7) (.c (.int .u8 48))), true), ((.o3 .pick (.o3 .pick (.o2 (.bin .geq) (.t 7) (.c (.int .u8 97))) (.o2 (.bin .leq) (.t 7) (.c (.int .u8 122))) (.c (.bool false))) (.c (.bool true)) (.o3 .pick (.o2 (.bin .geq) (.t 7) (.c (.int .u8 65))) (.o2 (.bin .leq) (.t 7) (.c (.int .u8 90))) (.c (.bool false)))), false)] (.c2 (.bin .leq) (.t 7) (.c (.int .u8 57)))),
    (.chk [((.o3 .pick (.o3 .pick (.o2 (.bin .geq) (.t 7) (.c (.int .u8 97))) (.o2 (.bin .leq) (.t 7) (.c (.int .u8 122))) (.c (.bool false))) (.c (.bool true)) (.o3 .pick (.o2 (.bin .geq) (.t 7) (.c (.int .u8 65))) (.o2 (.bin .leq) (.t 7) (.c (.int .u8 90))) (.c (.bool false)))), false)] (.c3 .pick (.o2 (.bin .geq) (.t 7) (.c (.int .u8 48))) (.o2 (.bin .leq) (.t 7) (.c (.int .u8 57))) (.c (.bool false)))),
    (.chk [] (.c3 .pick (.o3 .pick (.o3 .pick (.o2 (.bin .geq) (.t 7) (.c (.int .u8 97))) (.o2 (.bin .leq) (.t 7) (.c (.int .u8 122))) (.c (.bool false))) (.c (.bool true)) (.o3 .pick (.o2 (.bin .geq) (.t 7) (.c (.int .u8 65))) (.o2 (.bin .leq) (.t 7) (.c (.int .u8 90))) (.c (.bool false)))) (.c (.bool true)) (.o3 .pick (.o2 (.bin .geq) (.t 7) (.c (.int .u8 48))) (.o2 (.bin .leq) (.t 7) (.c (.int .u8 57))) (.c (.bool false))))),
    (.set 53 (.o3 .pick (.o3 .pick (.o3 .pick (.o2 (.bin .geq) (.t 7) (.c (.int .u8 97))) (.o2 (.bin .leq) (.t 7) (.c (.int .u8 122))) (.c (.bool false))) (.c (.bool true)) (.o3 .pick (.o2 (.bin .geq) (.t 7) (.c (.int .u8 65))) (.o2 (.bin .leq) (.t 7) (.c (.int .u8 90))) (.c (.bool false)))) (.c (.bool true)) (.o3 .pick (.o2 (.bin .geq) (.t 7) (.c (.int .u8 48))) (.o2 (.bin .leq) (.t 7) (.c (.int .u8 57))) (.c (.bool false)))))]) (.cond 53 (.sts [(.eff [] (some 56) (.bsl 5 1 1 [(.int .u8 0)] [0]) [(.t 7)] []),
    (.eff [] (some 57) (.app 5 1 1 [(.int .u8 0)]) [(.t 5), (.t 56)] []),
    (.set 5 (.t 57))]) (.sts [(.eff [] (some 59) (.bsl 5 1 1 [(.int .u8 0)] [0]) [(.c (.int .u8 95))] []),
    (.eff [] (some 60) (.app 5 1 1 [(.int .u8 0)]) [(.t 5), (.t 59)] []),
    (.set 5 (.t 60))]))))) (.sts [(.chk [] (.c2 (.bin .add) (.t 6) (.c (.int .i64 1)))),
    (.set 28 (.o2 (.bin .add) (.t 6) (.c (.int .i64 1)))),
    (.set 6 (.t 28))])))
def poWord_S : S :=
  (.seq (.sts [(.set 4 (.c (str [])))]) (.seq (.seq (.sts [(.chk [] (.c2 (.bin .eql) (.t 0) (.c (str [])))),
    (.set 9 (.o2 (.bin .eql) (.t 0) (.c (str []))))]) (.cond 9 (.seq (.sts [(.eff [] (some 11) (.bsl 5 1 1 [(.int .u8 0)] [0]) [(.t 1)] []),
    (.eff [] (some 12) .b2s [(.t 11)] []),
    (.set 4 (.t 12))]) .ret) .skip)) (.seq (.sts [(.chk [] (.c2 .idxS (.t 0) (.c (.int .i64 0)))),
    (.chk [] (.c2 (.bin .rem) (.o2 .idxS (.t 0) (.c (.int .i64 0))) (.c (.int .u8 26)))),
    (.chk [] (.c2 (.bin .add) (.t 1) (.o2 (.bin .rem) (.o2 .idxS (.t 0) (.c (.int .i64 0))) (.c (.int .u8 26))))),
    (.eff [] (some 18) (.bsl 5 1 1 [(.int .u8 0)] [0]) [(.o2 (.bin .add) (.t 1) (.o2 (.bin .rem) (.o2 .idxS (.t 0) (.c (.int .i64 0))) (.c (.int .u8 26))))] []),
    (.set 5 (.t 18))]) (.seq (.seq (.sts [(.set 6 (.c (.int .i64 1)))]) (.block 0 (.loop poWord_L1))) (.seq (.sts [(.eff [] (some 62) .b2s [(.t 5)] []),
    (.set 4 (.t 62))]) .ret)))))
def poWord_E : Res := [(none, (.t 4))]
theorem poWord_C : Tryd.f26.body.bind (comp Tryd.prog poWord_M Tryd.f26.ntmps) = some poWord_S := by kernel_rfl
theorem poWord_R : resE Tryd.prog poWord_M Tryd.f26.results.toList = some poWord_E := by kernel_rfl
theorem poWord_H (G : Ctr) (hG : GOk Tryd.prog G) (a0 : Value) (a1 : Value) {h : H} {K : Value → H → Prop} {KP : List PanicEntry → H → Prop} (Hw : wpS G poWord_S (retQ poWord_E (callK K KP)) (envOf 0 [a0, a1] env0) h) : HCX Tryd.prog 26 [a0, a1] h K KP :=
  .inl ⟨by kernel_rfl, hc_of mixed hG Tryd.func26 poWord_C poWord_R (of_decide_eq_true (by kernel_rfl)) Hw⟩
def poName_M : Nat → Bool := fun i => Nat.testBit 141 i
def poName_S : S :=
  (.seq (.sts [(.set 2 (.c (str [])))]) (.seq (.sts [(.eff [] (some 5) (.call 26) [(.t 0), (.c (.int .u8 97))] []),
    (.set 3 (.t 5))]) (.seq (.seq (.sts [(.chk [] (.c2 (.bin .eql) (.t 3) (.c (str [110, 111, 116])))),
    (.set 7 (.o2 (.bin .eql) (.t 3) (.c (str [110, 111, 116]))))]) (.cond 7 (.seq (.sts [(.set 2 (.c (str [110, 111, 116, 101])))]) .ret) .skip)) (.seq (.sts [(.set 2 (.t 3))]) .ret))))
def poName_E : Res := [(none, (.t 2))]
theorem poName_C : Tryd.f12.body.bind (comp Tryd.prog poName_M Tryd.f12.ntmps) = some poName_S := by kernel_rfl
theorem poName_R : resE Tryd.prog poName_M Tryd.f12.results.toList = some poName_E := by kernel_rfl
theorem poName_H (G : Ctr) (hG : GOk Tryd.prog G) (a0 : Value) {h : H} {K : Value → H → Prop} {KP : List PanicEntry → H → Prop} (Hw : wpS G poName_S (retQ poName_E (callK K KP)) (envOf 0 [a0] env0) h) : HCX Tryd.prog 12 [a0] h K KP :=
  .inl ⟨by kernel_rfl, hc_of mixed hG Tryd.func12 poName_C poName_R (of_decide_eq_true (by kernel_rfl)) Hw⟩
def poCon_M : Nat → Bool := fun i => Nat.testBit 9031 i
def poCon_S : S :=
  (.seq (.sts [(.eff [] (some 6) (.alloc 46 #[(.int .i64 0), (.int .i64 0), (str [])]) [] [])]) (.seq (.seq (.sts [(.eff [] (some 8) (.call 27) [(.t 0), (.c (.int .i64 3))] [])]) (.block 0 (.seq (.sts [(.chk [] (.c2 (.bin .eql) (.t 8) (.c (.int .i64 0)))),
    (.set 9 (.o2 (.bin .eql) (.t 8) (.c (.int .i64 0))))]) (.cond 9 (.seq (.sts [(.chk [] (.cb 3 [(0, (1, (.c (.int .i64 1)))), (1, (1, (.t 1)))])),
    (.eff [] none (.store 3) [(.t 6), (.o2 (.put 1 1) (.o2 (.put 0 1) (.c (.agg #[(.int .i64 0), (.int .i64 0), (str [])])) (.c (.int .i64 1))) (.t 1))] [])]) .ret) (.seq (.sts [(.chk [] (.c2 (.bin .eql) (.t 8) (.c (.int .i64 1)))),
    (.set 13 (.o2 (.bin .eql) (.t 8) (.c (.int .i64 1))))]) (.cond 13 (.seq (.sts [(.eff [] (some 16) (.call 12) [(.t 2)] []),
    (.chk [] (.cb 3 [(0, (1, (.c (.int .i64 2)))), (2, (1, (.t 16)))])),
    (.eff [] none (.store 3) [(.t 6), (.o2 (.put 2 1) (.o2 (.put 0 1) (.c (.agg #[(.int .i64 0), (.int .i64 0), (str [])])) (.c (.int .i64 2))) (.t 16))] [])]) .ret) .skip)))))) (.seq (.sts [(.chk [] (.c1 .lens (.t 2))),
    (.chk [] (.c2 (.mm false) (.c (.int .i64 255)) (.o1 .lens (.t 2)))),
    (.chk [] (.c2 .subHi (.t 2) (.o2 (.mm false) (.c (.int .i64 255)) (.o1 .lens (.t 2))))),
    (.chk [] (.cb 3 [(0, (1, (.c (.int .i64 3)))), (2, (1, (.o2 .subHi (.t 2) (.o2 (.mm false) (.c (.int .i64 255)) (.o1 .lens (.t 2))))))])),
    (.eff [] none (.store 3) [(.t 6), (.o2 (.put 2 1) (.o2 (.put 0 1) (.c (.agg #[(.int .i64 0), (.int .i64 0), (str [])])) (.c (.int .i64 3))) (.o2 .subHi (.t 2) (.o2 (.mm false) (.c (.int .i64 255)) (.o1 .lens (.t 2)))))] [])]) .ret)))
def poCon_E : Res := [((some (.c1 (.ldn 3) (.t 6))), (.o1 (.ldn 3) (.t 6)))]
theorem poCon_C : Tryd.f13.body.bind (comp Tryd.prog poCon_M Tryd.f13.ntmps) = some poCon_S := by kernel_rfl
theorem poCon_R : resE Tryd.prog poCon_M Tryd.f13.results.toList = some poCon_E := by kernel_rfl
theorem poCon_H (G : Ctr) (hG : GOk Tryd.prog G) (a0 : Value) (a1 : Value) (a2 : Value) {h : H} {K : Value → H → Prop} {KP : List PanicEntry → H → Prop} (Hw : wpS G poCon_S (retQ poCon_E (callK K KP)) (envOf 0 [a0, a1, a2] env0) h) : HCX Tryd.prog 13 [a0, a1, a2] h K KP :=
  .inl ⟨by kernel_rfl, hc_of mixed hG Tryd.func13 poCon_C poCon_R (of_decide_eq_true (by kernel_rfl)) Hw⟩
def pgFacts_M : Nat → Bool := fun i => Nat.testBit 68719509757 i
def pgFacts_L2 : S :=
  (.seq (.seq (.sts [(.chk [] (.c2 (.idxA 2) (.t 0) (.t 4))),
    (.chk [] (.c1 (.fld 1) (.o2 (.idxA 2) (.t 0) (.t 4)))),
    (.chk [] (.c1 .ld1 (.o1 (.fld 1) (.o2 (.idxA 2) (.t 0) (.t 4))))),
    (.chk [] (.c1 .len (.o1 .ld1 (.o1 (.fld 1) (.o2 (.idxA 2) (.t 0) (.t 4)))))),
    (.chk [] (.c2 (.bin .lss) (.t 6) (.o1 .len (.o1 .ld1 (.o1 (.fld 1) (.o2 (.idxA 2) (.t 0) (.t 4))))))),
    (.chk [((.o2 (.bin .lss) (.t 6) (.o1 .len (.o1 .ld1 (.o1 (.fld 1) (.o2 (.idxA 2) (.t 0) (.t 4)))))), true)] (.c2 (.bin .lss) (.t 6) (.c (.int .i64 8)))),
    (.chk [] (.c3 .pick (.o2 (.bin .lss) (.t 6) (.o1 .len (.o1 .ld1 (.o1 (.fld 1) (.o2 (.idxA 2) (.t 0) (.t 4)))))) (.o2 (.bin .lss) (.t 6) (.c (.int .i64 8))) (.c (.bool false)))),
    (.set 36 (.o3 .pick (.o2 (.bin .lss) (.t 6) (.o1 .len (.o1 .ld1 (.o1 (.fld 1) (.o2 (.idxA 2) (.t 0) (.t 4)))))) (.o2 (.bin .lss) (.t 6) (.c (.int .i64 8))) (.c (.bool false))))]) (.cond 36 .skip (.exit 2))) (.seq (.block 3 (.seq (.sts [(.chk [] (.c2 (.idxA 2) (.t 0) (.t 4))),
    (.chk [] (.c1 (.fld 1) (.o2 (.idxA 2) (.t 0) (.t 4)))),
    (.chk [] (.c1 .ld1 (.o1 (.fld 1) (.o2 (.idxA 2) (.t 0) (.t 4))))),
    (.chk [] (.c2 (.idxA 3) (.o1 .ld1 (.o1 (.fld 1) (.o2 (.idxA 2) (.t 0) (.t 4)))) (.t 6))),
    (.chk [] (.c1 (.ldn 3) (.o2 (.idxA 3) (.o1 .ld1 (.o1 (.fld 1) (.o2 (.idxA 2) (.t 0) (.t 4)))) (.t 6)))),
    (.set 46 (.o1 (.ldn 3) (.o2 (.idxA 3) (.o1 .ld1 (.o1 (.fld 1) (.o2 (.idxA 2) (.t 0) (.t 4)))) (.t 6)))),
    (.eff [] (some 7) (.alloc 46 #[(.int .i64 0), (.int .i64 0), (str [])]) [] []),
    (.eff [] none (.store 3) [(.t 7), (.t 46)] [])]) (.sts [(.chk [] (.c1 (.fld 1) (.t 5))),
    (.chk [] (.c1 .ld1 (.o1 (.fld 1) (.t 5)))),
    (.chk [] (.c1 (.fld 0) (.t 7))),
    (.chk [] (.c1 .ld1 (.o1 (.fld 0) (.t 7)))),
    (.chk [] (.c1 (.fld 1) (.t 7))),
    (.chk [] (.c1 .ld1 (.o1 (.fld 1) (.t 7)))),
    (.chk [] (.c1 (.fld 2) (.t 7))),
    (.chk [] (.c1 .ld1 (.o1 (.fld 2) (.t 7)))),
    (.set 54 (.o1 .ld1 (.o1 (.fld 2) (.t 7)))),
    (.set 52 (.o1 .ld1 (.o1 (.fld 1) (.t 7)))),
    (.set 50 (.o1 .ld1 (.o1 (.fld 0) (.t 7)))),
    (.set 48 (.o1 .ld1 (.o1 (.fld 1) (.t 5)))),
    (.eff [] (some 55) (.call 13) [(.t 50), (.t 52), (.t 54)] [([], ((.o1 (.fld 1) (.t 5)), none))]),
    (.eff [] (some 56) (.bsl 46 3 1 [(.int .i64 0), (.int .i64 0), (str [])] [0]) [(.t 55)] [([], ((.o1 (.fld 1) (.t 5)), none))]),
    (.eff [] (some 57) (.app 46 3 32 [(.int .i64 0), (.int .i64 0), (str [])]) [(.t 48), (.t 56)] []),
    (.chk [] (.c1 (.fld 1) (.t 5))),
    (.eff [] none (.store 1) [(.o1 (.fld 1) (.t 5)), (.t 57)] [])]))) (.sts [(.chk [] (.c2 (.bin .add) (.t 6) (.c (.int .i64 1)))),
    (.set 38 (.o2 (.bin .add) (.t 6) (.c (.int .i64 1)))),
    (.set 6 (.t 38))])))
def pgFacts_L1 : S :=
  (.seq (.seq (.sts [(.chk [] (.c1 .len (.t 0))),
    (.chk [] (.c2 (.bin .lss) (.t 4) (.o1 .len (.t 0)))),
    (.chk [((.o2 (.bin .lss) (.t 4) (.o1 .len (.t 0))), true)] (.c2 (.bin .lss) (.t 4) (.c (.int .i64 4096)))),
    (.chk [] (.c3 .pick (.o2 (.bin .lss) (.t 4) (.o1 .len (.t 0))) (.o2 (.bin .lss) (.t 4) (.c (.int .i64 4096))) (.c (.bool false)))),
    (.set 15 (.o3 .pick (.o2 (.bin .lss) (.t 4) (.o1 .len (.t 0))) (.o2 (.bin .lss) (.t 4) (.c (.int .i64 4096))) (.c (.bool false))))]) (.cond 15 .skip (.exit 0))) (.seq (.block 1 (.seq (.sts [(.chk [] (.c2 (.idxA 2) (.t 0) (.t 4))),
    (.chk [] (.c1 (.fld 0) (.o2 (.idxA 2) (.t 0) (.t 4)))),
    (.chk [] (.c1 .ld1 (.o1 (.fld 0) (.o2 (.idxA 2) (.t 0) (.t 4))))),
    (.set 22 (.o1 .ld1 (.o1 (.fld 0) (.o2 (.idxA 2) (.t 0) (.t 4))))),
    (.eff [] (some 23) (.call 12) [(.t 22)] []),
    (.chk [] (.cb 2 [(0, (1, (.t 23)))])),
    (.eff [] (some 5) (.alloc 28 #[(str []), (.slice none 0 0)]) [] []),
    (.eff [] none (.store 2) [(.t 5), (.o2 (.put 0 1) (.c (.agg #[(str []), (.slice none 0 0)])) (.t 23))] [])]) (.seq (.seq (.sts [(.set 6 (.c (.int .i64 0)))]) (.block 2 (.loop pgFacts_L2))) (.sts [(.chk [] (.c1 (.ldn 2) (.t 5))),
    (.set 60 (.o1 (.ldn 2) (.t 5))),
    (.eff [] (some 61) (.bsl 28 2 1 [(str []), (.slice none 0 0)] [0]) [(.t 60)] []),
    (.eff [] (some 62) (.app 28 2 40 [(str []), (.slice none 0 0)]) [(.t 3), (.t 61)] []),
    (.set 3 (.t 62))])))) (.sts [(.chk [] (.c2 (.bin .add) (.t 4) (.c (.int .i64 1)))),
    (.set 17 (.o2 (.bin .add) (.t 4) (.c (.int .i64 1)))),
    (.set 4 (.t 17))])))
def pgFacts_S : S :=
  (.seq (.sts [(.set 2 (.c (.slice none 0 0)))]) (.seq (.sts [(.set 3 (.c (.slice none 0 0)))]) (.seq (.seq (.sts [(.set 4 (.c (.int .i64 0)))]) (.block 0 (.loop pgFacts_L1))) (.seq (.sts [(.set 2 (.t 3))]) .ret))))
def pgFacts_E : Res := [(none, (.t 2))]
theorem pgFacts_C : Tryd.f4.body.bind (comp Tryd.prog pgFacts_M Tryd.f4.ntmps) = some pgFacts_S := by kernel_rfl
theorem pgFacts_R : resE Tryd.prog pgFacts_M Tryd.f4.results.toList = some pgFacts_E := by kernel_rfl
theorem pgFacts_H (G : Ctr) (hG : GOk Tryd.prog G) (a0 : Value) {h : H} {K : Value → H → Prop} {KP : List PanicEntry → H → Prop} (Hw : wpS G pgFacts_S (retQ pgFacts_E (callK K KP)) (envOf 0 [a0] env0) h) : HCX Tryd.prog 4 [a0] h K KP :=
  .inl ⟨by kernel_rfl, hc_of mixed hG Tryd.func4 pgFacts_C pgFacts_R (of_decide_eq_true (by kernel_rfl)) Hw⟩
def pgLines_M : Nat → Bool := fun i => Nat.testBit 68786618931 i
def pgLines_L1 : S :=
  (.seq (.seq (.sts [(.chk [] (.c1 .lens (.t 0))),
    (.chk [] (.c2 (.bin .lss) (.t 5) (.o1 .lens (.t 0)))),
    (.set 9 (.o2 (.bin .lss) (.t 5) (.o1 .lens (.t 0))))]) (.cond 9 .skip (.exit 0))) (.seq (.block 1 (.seq (.sts [(.chk [] (.c2 .idxS (.t 0) (.t 5))),
    (.chk [] (.c2 (.bin .eql) (.o2 .idxS (.t 0) (.t 5)) (.c (.int .u8 10)))),
    (.set 15 (.o2 (.bin .eql) (.o2 .idxS (.t 0) (.t 5)) (.c (.int .u8 10))))]) (.cond 15 (.seq (.sts [(.chk [] (.c2 (.bin .sub) (.t 1) (.c (.int .i64 1)))),
    (.set 17 (.o2 (.bin .sub) (.t 1) (.c (.int .i64 1)))),
    (.set 1 (.t 17))]) (.seq (.sts [(.chk [] (.c2 (.bin .eql) (.t 5) (.c (.int .i64 0)))),
    (.chk [((.o2 (.bin .eql) (.t 5) (.c (.int .i64 0))), false)] (.c2 (.bin .sub) (.t 5) (.c (.int .i64 1)))),
    (.chk [((.o2 (.bin .eql) (.t 5) (.c (.int .i64 0))), false)] (.c2 .idxS (.t 0) (.o2 (.bin .sub) (.t 5) (.c (.int .i64 1))))),
    (.chk [((.o2 (.bin .eql) (.t 5) (.c (.int .i64 0))), false)] (.c2 (.bin .neq) (.o2 .idxS (.t 0) (.o2 (.bin .sub) (.t 5) (.c (.int .i64 1)))) (.c (.int .u8 46)))),
    (.chk [] (.c3 .pick (.o2 (.bin .eql) (.t 5) (.c (.int .i64 0))) (.c (.bool true)) (.o2 (.bin .neq) (.o2 .idxS (.t 0) (.o2 (.bin .sub) (.t 5) (.c (.int .i64 1)))) (.c (.int .u8 46))))),
    (.set 26 (.o3 .pick (.o2 (.bin .eql) (.t 5) (.c (.int .i64 0))) (.c (.bool true)) (.o2 (.bin .neq) (.o2 .idxS (.t 0) (.o2 (.bin .sub) (.t 5) (.c (.int .i64 1)))) (.c (.int .u8 46)))))]) (.cond 26 (.seq (.sts [(.set 4 (.c (.bool false)))]) .ret) .skip))) (.seq (.sts [(.chk [] (.c2 .idxS (.t 0) (.t 5))),
    (.chk [] (.c2 (.bin .lss) (.o2 .idxS (.t 0) (.t 5)) (.c (.int .u8 32)))),
    (.chk [((.o2 (.bin .lss) (.o2 .idxS (.t 0) (.t 5)) (.c (.int .u8 32))), false)] (.c2 .idxS (.t 0) (.t 5))),
    (.chk [((.o2 (.bin .lss) (.o2 .idxS (.t 0) (.t 5)) (.c (.int .u8 32))), false)] (.c2 (.bin .gtr) (.o2 .idxS (.t 0) (.t 5)) (.c (.int .u8 126)))),
    (.chk [] (.c3 .pick (.o2 (.bin .lss) (.o2 .idxS (.t 0) (.t 5)) (.c (.int .u8 32))) (.c (.bool true)) (.o2 (.bin .gtr) (.o2 .idxS (.t 0) (.t 5)) (.c (.int .u8 126))))),
    (.set 36 (.o3 .pick (.o2 (.bin .lss) (.o2 .idxS (.t 0) (.t 5)) (.c (.int .u8 32))) (.c (.bool true)) (.o2 (.bin .gtr) (.o2 .idxS (.t 0) (.t 5)) (.c (.int .u8 126)))))]) (.cond 36 (.seq (.sts [(.set 4 (.c (.bool false)))]) .ret) .skip))))) (.sts [(.chk [] (.c2 (.bin .add) (.t 5) (.c (.int .i64 1)))),
    (.set 11 (.o2 (.bin .add) (.t 5) (.c (.int .i64 1)))),
    (.set 5 (.t 11))])))
def pgLines_S : S :=
  (.seq (.sts [(.set 4 (.c (.bool false)))]) (.seq (.seq (.sts [(.set 5 (.c (.int .i64 0)))]) (.block 0 (.loop pgLines_L1))) (.seq (.sts [(.chk [] (.c2 (.bin .eql) (.t 1) (.c (.int .i64 0)))),
    (.chk [((.o2 (.bin .eql) (.t 1) (.c (.int .i64 0))), true)] (.c2 (.bin .eql) (.t 0) (.c (str [])))),
    (.chk [((.o2 (.bin .eql) (.t 0) (.c (str []))), false), ((.o2 (.bin .eql) (.t 1) (.c (.int .i64 0))), true)] (.c1 .lens (.t 0))),
    (.chk [((.o2 (.bin .eql) (.t 0) (.c (str []))), false), ((.o2 (.bin .eql) (.t 1) (.c (.int .i64 0))), true)] (.c2 (.bin .sub) (.o1 .lens (.t 0)) (.c (.int .i64 1)))),
    (.chk [((.o2 (.bin .eql) (.t 0) (.c (str []))), false), ((.o2 (.bin .eql) (.t 1) (.c (.int .i64 0))), true)] (.c2 .idxS (.t 0) (.o2 (.bin .sub) (.o1 .lens (.t 0)) (.c (.int .i64 1))))),
    (.chk [((.o2 (.bin .eql) (.t 0) (.c (str []))), false), ((.o2 (.bin .eql) (.t 1) (.c (.int .i64 0))), true)] (.c2 (.bin .eql) (.o2 .idxS (.t 0) (.o2 (.bin .sub) (.o1 .lens (.t 0)) (.c (.int .i64 1)))) (.c (.int .u8 10)))),
    (.chk [((.o2 (.bin .eql) (.t 1) (.c (.int .i64 0))), true)] (.c3 .pick (.o2 (.bin .eql) (.t 0) (.c (str []))) (.c (.bool true)) (.o2 (.bin .eql) (.o2 .idxS (.t 0) (.o2 (.bin .sub) (.o1 .lens (.t 0)) (.c (.int .i64 1)))) (.c (.int .u8 10))))),
    (.chk [] (.c3 .pick (.o2 (.bin .eql) (.t 1) (.c (.int .i64 0))) (.o3 .pick (.o2 (.bin .eql) (.t 0) (.c (str []))) (.c (.bool true)) (.o2 (.bin .eql) (.o2 .idxS (.t 0) (.o2 (.bin .sub) (.o1 .lens (.t 0)) (.c (.int .i64 1)))) (.c (.int .u8 10)))) (.c (.bool false)))),
    (.set 4 (.o3 .pick (.o2 (.bin .eql) (.t 1) (.c (.int .i64 0))) (.o3 .pick (.o2 (.bin .eql) (.t 0) (.c (str []))) (.c (.bool true)) (.o2 (.bin .eql) (.o2 .idxS (.t 0) (.o2 (.bin .sub) (.o1 .lens (.t 0)) (.c (.int .i64 1)))) (.c (.int .u8 10)))) (.c (.bool false))))]) .ret)))
def pgLines_E : Res := [(none, (.t 4))]
theorem pgLines_C : Tryd.f6.body.bind (comp Tryd.prog pgLines_M Tryd.f6.ntmps) = some pgLines_S := by kernel_rfl
theorem pgLines_R : resE Tryd.prog pgLines_M Tryd.f6.results.toList = some pgLines_E := by kernel_rfl
theorem pgLines_H (G : Ctr) (hG : GOk Tryd.prog G) (a0 : Value) (a1 : Value) {h : H} {K : Value → H → Prop} {KP : List PanicEntry → H → Prop} (Hw : wpS G pgLines_S (retQ pgLines_E (callK K KP)) (envOf 0 [a0, a1] env0) h) : HCX Tryd.prog 6 [a0, a1] h K KP :=
  .inl ⟨by kernel_rfl, hc_of mixed hG Tryd.func6 pgLines_C pgLines_R (of_decide_eq_true (by kernel_rfl)) Hw⟩
def pgAlike_M : Nat → Bool := fun i => Nat.testBit 137456255039 i
def pgAlike_L1 : S :=
  (.seq (.seq (.sts [(.chk [] (.c1 (.fld 1) (.t 2))),
    (.chk [] (.c1 .ld1 (.o1 (.fld 1) (.t 2)))),
    (.chk [] (.c1 .len (.o1 .ld1 (.o1 (.fld 1) (.t 2))))),
    (.chk [] (.c2 (.bin .lss) (.t 5) (.o1 .len (.o1 .ld1 (.o1 (.fld 1) (.t 2)))))),
    (.set 24 (.o2 (.bin .lss) (.t 5) (.o1 .len (.o1 .ld1 (.o1 (.fld 1) (.t 2))))))]) (.cond 24 .skip (.exit 0))) (.seq (.block 1 (.seq (.sts [(.chk [] (.c1 (.fld 1) (.t 2))),
    (.chk [] (.c1 .ld1 (.o1 (.fld 1) (.t 2)))),
    (.chk [] (.c2 (.idxA 3) (.o1 .ld1 (.o1 (.fld 1) (.t 2))) (.t 5))),
    (.chk [] (.c1 (.ldn 3) (.o2 (.idxA 3) (.o1 .ld1 (.o1 (.fld 1) (.t 2))) (.t 5)))),
    (.chk [] (.c1 (.fld 1) (.t 3))),
    (.chk [] (.c1 .ld1 (.o1 (.fld 1) (.t 3)))),
    (.chk [] (.c2 (.idxA 3) (.o1 .ld1 (.o1 (.fld 1) (.t 3))) (.t 5))),
    (.chk [] (.c1 (.ldn 3) (.o2 (.idxA 3) (.o1 .ld1 (.o1 (.fld 1) (.t 3))) (.t 5)))),
    (.chk [] (.c2 (.eqs true [(.int .i64), (.int .i64), .str]) (.o1 (.ldn 3) (.o2 (.idxA 3) (.o1 .ld1 (.o1 (.fld 1) (.t 2))) (.t 5))) (.o1 (.ldn 3) (.o2 (.idxA 3) (.o1 .ld1 (.o1 (.fld 1) (.t 3))) (.t 5))))),
    (.set 37 (.o2 (.eqs true [(.int .i64), (.int .i64), .str]) (.o1 (.ldn 3) (.o2 (.idxA 3) (.o1 .ld1 (.o1 (.fld 1) (.t 2))) (.t 5))) (.o1 (.ldn 3) (.o2 (.idxA 3) (.o1 .ld1 (.o1 (.fld 1) (.t 3))) (.t 5)))))]) (.cond 37 (.seq (.sts [(.set 4 (.c (.bool false)))]) .ret) .skip))) (.sts [(.chk [] (.c2 (.bin .add) (.t 5) (.c (.int .i64 1)))),
    (.set 26 (.o2 (.bin .add) (.t 5) (.c (.int .i64 1)))),
    (.set 5 (.t 26))])))
def pgAlike_S : S :=
  (.seq (.sts [(.eff [] (some 2) (.box 28) [(.t 0)] []),
    (.eff [] (some 3) (.box 28) [(.t 1)] []),
    (.set 4 (.c (.bool false)))]) (.seq (.seq (.sts [(.chk [] (.c1 (.fld 0) (.t 2))),
    (.chk [] (.c1 .ld1 (.o1 (.fld 0) (.t 2)))),
    (.chk [] (.c1 (.fld 0) (.t 3))),
    (.chk [] (.c1 .ld1 (.o1 (.fld 0) (.t 3)))),
    (.chk [] (.c2 (.bin .neq) (.o1 .ld1 (.o1 (.fld 0) (.t 2))) (.o1 .ld1 (.o1 (.fld 0) (.t 3))))),
    (.chk [((.o2 (.bin .neq) (.o1 .ld1 (.o1 (.fld 0) (.t 2))) (.o1 .ld1 (.o1 (.fld 0) (.t 3)))), false)] (.c1 (.fld 1) (.t 2))),
    (.chk [((.o2 (.bin .neq) (.o1 .ld1 (.o1 (.fld 0) (.t 2))) (.o1 .ld1 (.o1 (.fld 0) (.t 3)))), false)] (.c1 .ld1 (.o1 (.fld 1) (.t 2)))),
    (.chk [((.o2 (.bin .neq) (.o1 .ld1 (.o1 (.fld 0) (.t 2))) (.o1 .ld1 (.o1 (.fld 0) (.t 3)))), false)] (.c1 .len (.o1 .ld1 (.o1 (.fld 1) (.t 2))))),
    (.chk [((.o2 (.bin .neq) (.o1 .ld1 (.o1 (.fld 0) (.t 2))) (.o1 .ld1 (.o1 (.fld 0) (.t 3)))), false)] (.c1 (.fld 1) (.t 3))),
    (.chk [((.o2 (.bin .neq) (.o1 .ld1 (.o1 (.fld 0) (.t 2))) (.o1 .ld1 (.o1 (.fld 0) (.t 3)))), false)] (.c1 .ld1 (.o1 (.fld 1) (.t 3)))),
    (.chk [((.o2 (.bin .neq) (.o1 .ld1 (.o1 (.fld 0) (.t 2))) (.o1 .ld1 (.o1 (.fld 0) (.t 3)))), false)] (.c1 .len (.o1 .ld1 (.o1 (.fld 1) (.t 3))))),
    (.chk [((.o2 (.bin .neq) (.o1 .ld1 (.o1 (.fld 0) (.t 2))) (.o1 .ld1 (.o1 (.fld 0) (.t 3)))), false)] (.c2 (.bin .neq) (.o1 .len (.o1 .ld1 (.o1 (.fld 1) (.t 2)))) (.o1 .len (.o1 .ld1 (.o1 (.fld 1) (.t 3)))))),
    (.chk [] (.c3 .pick (.o2 (.bin .neq) (.o1 .ld1 (.o1 (.fld 0) (.t 2))) (.o1 .ld1 (.o1 (.fld 0) (.t 3)))) (.c (.bool true)) (.o2 (.bin .neq) (.o1 .len (.o1 .ld1 (.o1 (.fld 1) (.t 2)))) (.o1 .len (.o1 .ld1 (.o1 (.fld 1) (.t 3))))))),
    (.set 19 (.o3 .pick (.o2 (.bin .neq) (.o1 .ld1 (.o1 (.fld 0) (.t 2))) (.o1 .ld1 (.o1 (.fld 0) (.t 3)))) (.c (.bool true)) (.o2 (.bin .neq) (.o1 .len (.o1 .ld1 (.o1 (.fld 1) (.t 2)))) (.o1 .len (.o1 .ld1 (.o1 (.fld 1) (.t 3)))))))]) (.cond 19 (.seq (.sts [(.set 4 (.c (.bool false)))]) .ret) .skip)) (.seq (.seq (.sts [(.set 5 (.c (.int .i64 0)))]) (.block 0 (.loop pgAlike_L1))) (.seq (.sts [(.set 4 (.c (.bool true)))]) .ret))))
def pgAlike_E : Res := [(none, (.t 4))]
theorem pgAlike_C : Tryd.f9.body.bind (comp Tryd.prog pgAlike_M Tryd.f9.ntmps) = some pgAlike_S := by kernel_rfl
theorem pgAlike_R : resE Tryd.prog pgAlike_M Tryd.f9.results.toList = some pgAlike_E := by kernel_rfl
theorem pgAlike_H (G : Ctr) (hG : GOk Tryd.prog G) (a0 : Value) (a1 : Value) {h : H} {K : Value → H → Prop} {KP : List PanicEntry → H → Prop} (Hw : wpS G pgAlike_S (retQ pgAlike_E (callK K KP)) (envOf 0 [a0, a1] env0) h) : HCX Tryd.prog 9 [a0, a1] h K KP :=
  .inl ⟨by kernel_rfl, hc_of mixed hG Tryd.func9 pgAlike_C pgAlike_R (of_decide_eq_true (by kernel_rfl)) Hw⟩
def pgSame_M : Nat → Bool := fun i => Nat.testBit 35184406691967 i
def pgSame_L1 : S :=
  (.seq (.seq (.sts [(.chk [] (.c1 (.fld 1) (.t 3))),
    (.chk [] (.c1 .ld1 (.o1 (.fld 1) (.t 3)))),
    (.chk [] (.c1 .len (.o1 .ld1 (.o1 (.fld 1) (.t 3))))),
    (.chk [] (.c2 (.bin .lss) (.t 5) (.o1 .len (.o1 .ld1 (.o1 (.fld 1) (.t 3)))))),
    (.set 25 (.o2 (.bin .lss) (.t 5) (.o1 .len (.o1 .ld1 (.o1 (.fld 1) (.t 3))))))]) (.cond 25 .skip (.exit 0))) (.seq (.block 1 (.seq (.sts [(.chk [] (.c1 (.fld 1) (.t 2))),
    (.chk [] (.c1 .ld1 (.o1 (.fld 1) (.t 2)))),
    (.chk [] (.c2 (.idxA 4) (.o1 .ld1 (.o1 (.fld 1) (.t 2))) (.t 5))),
    (.chk [] (.c1 (.ldn 4) (.o2 (.idxA 4) (.o1 .ld1 (.o1 (.fld 1) (.t 2))) (.t 5)))),
    (.set 32 (.o1 (.ldn 4) (.o2 (.idxA 4) (.o1 .ld1 (.o1 (.fld 1) (.t 2))) (.t 5)))),
    (.eff [] (some 6) (.alloc 67 #[(.int .i64 0), (.int .i64 0), (str []), (.int .i64 0)]) [] []),
    (.eff [] none (.store 4) [(.t 6), (.t 32)] [])]) (.seq (.sts [(.chk [] (.c1 (.fld 1) (.t 3))),
    (.chk [] (.c1 .ld1 (.o1 (.fld 1) (.t 3)))),
    (.chk [] (.c2 (.idxA 3) (.o1 .ld1 (.o1 (.fld 1) (.t 3))) (.t 5))),
    (.chk [] (.c1 (.ldn 3) (.o2 (.idxA 3) (.o1 .ld1 (.o1 (.fld 1) (.t 3))) (.t 5)))),
    (.chk [] (.c1 (.fld 0) (.t 6))),
    (.chk [] (.c1 .ld1 (.o1 (.fld 0) (.t 6)))),
    (.chk [] (.c1 (.fld 1) (.t 6))),
    (.chk [] (.c1 .ld1 (.o1 (.fld 1) (.t 6)))),
    (.chk [] (.c1 (.fld 2) (.t 6))),
    (.chk [] (.c1 .ld1 (.o1 (.fld 2) (.t 6)))),
    (.chk [] (.cb 3 [(0, (1, (.o1 .ld1 (.o1 (.fld 0) (.t 6))))), (1, (1, (.o1 .ld1 (.o1 (.fld 1) (.t 6))))), (2, (1, (.o1 .ld1 (.o1 (.fld 2) (.t 6)))))])),
    (.chk [] (.c2 (.eqs true [(.int .i64), (.int .i64), .str]) (.o1 (.ldn 3) (.o2 (.idxA 3) (.o1 .ld1 (.o1 (.fld 1) (.t 3))) (.t 5))) (.o2 (.put 2 1) (.o2 (.put 1 1) (.o2 (.put 0 1) (.c (.agg #[(.int .i64 0), (.int .i64 0), (str [])])) (.o1 .ld1 (.o1 (.fld 0) (.t 6)))) (.o1 .ld1 (.o1 (.fld 1) (.t 6)))) (.o1 .ld1 (.o1 (.fld 2) (.t 6)))))),
    (.set 45 (.o2 (.eqs true [(.int .i64), (.int .i64), .str]) (.o1 (.ldn 3) (.o2 (.idxA 3) (.o1 .ld1 (.o1 (.fld 1) (.t 3))) (.t 5))) (.o2 (.put 2 1) (.o2 (.put 1 1) (.o2 (.put 0 1) (.c (.agg #[(.int .i64 0), (.int .i64 0), (str [])])) (.o1 .ld1 (.o1 (.fld 0) (.t 6)))) (.o1 .ld1 (.o1 (.fld 1) (.t 6)))) (.o1 .ld1 (.o1 (.fld 2) (.t 6))))))]) (.cond 45 (.seq (.sts [(.set 4 (.c (.bool false)))]) .ret) .skip)))) (.sts [(.chk [] (.c2 (.bin .add) (.t 5) (.c (.int .i64 1)))),
    (.set 27 (.o2 (.bin .add) (.t 5) (.c (.int .i64 1)))),
    (.set 5 (.t 27))])))
def pgSame_S : S :=
  (.seq (.sts [(.eff [] (some 2) (.box 42) [(.t 0)] []),
    (.eff [] (some 3) (.box 28) [(.t 1)] []),
    (.set 4 (.c (.bool false)))]) (.seq (.seq (.sts [(.chk [] (.c1 (.fld 0) (.t 2))),
    (.chk [] (.c1 .ld1 (.o1 (.fld 0) (.t 2)))),
    (.chk [] (.c1 (.fld 0) (.t 3))),
    (.chk [] (.c1 .ld1 (.o1 (.fld 0) (.t 3)))),
    (.chk [] (.c2 (.bin .neq) (.o1 .ld1 (.o1 (.fld 0) (.t 2))) (.o1 .ld1 (.o1 (.fld 0) (.t 3))))),
    (.chk [((.o2 (.bin .neq) (.o1 .ld1 (.o1 (.fld 0) (.t 2))) (.o1 .ld1 (.o1 (.fld 0) (.t 3)))), false)] (.c1 (.fld 1) (.t 2))),
    (.chk [((.o2 (.bin .neq) (.o1 .ld1 (.o1 (.fld 0) (.t 2))) (.o1 .ld1 (.o1 (.fld 0) (.t 3)))), false)] (.c1 .ld1 (.o1 (.fld 1) (.t 2)))),
    (.chk [((.o2 (.bin .neq) (.o1 .ld1 (.o1 (.fld 0) (.t 2))) (.o1 .ld1 (.o1 (.fld 0) (.t 3)))), false)] (.c1 .len (.o1 .ld1 (.o1 (.fld 1) (.t 2))))),
    (.chk [((.o2 (.bin .neq) (.o1 .ld1 (.o1 (.fld 0) (.t 2))) (.o1 .ld1 (.o1 (.fld 0) (.t 3)))), false)] (.c1 (.fld 1) (.t 3))),
    (.chk [((.o2 (.bin .neq) (.o1 .ld1 (.o1 (.fld 0) (.t 2))) (.o1 .ld1 (.o1 (.fld 0) (.t 3)))), false)] (.c1 .ld1 (.o1 (.fld 1) (.t 3)))),
    (.chk [((.o2 (.bin .neq) (.o1 .ld1 (.o1 (.fld 0) (.t 2))) (.o1 .ld1 (.o1 (.fld 0) (.t 3)))), false)] (.c1 .len (.o1 .ld1 (.o1 (.fld 1) (.t 3))))),
    (.chk [((.o2 (.bin .neq) (.o1 .ld1 (.o1 (.fld 0) (.t 2))) (.o1 .ld1 (.o1 (.fld 0) (.t 3)))), false)] (.c2 (.bin .neq) (.o1 .len (.o1 .ld1 (.o1 (.fld 1) (.t 2)))) (.o1 .len (.o1 .ld1 (.o1 (.fld 1) (.t 3)))))),
    (.chk [] (.c3 .pick (.o2 (.bin .neq) (.o1 .ld1 (.o1 (.fld 0) (.t 2))) (.o1 .ld1 (.o1 (.fld 0) (.t 3)))) (.c (.bool true)) (.o2 (.bin .neq) (.o1 .len (.o1 .ld1 (.o1 (.fld 1) (.t 2)))) (.o1 .len (.o1 .ld1 (.o1 (.fld 1) (.t 3))))))),
    (.set 20 (.o3 .pick (.o2 (.bin .neq) (.o1 .ld1 (.o1 (.fld 0) (.t 2))) (.o1 .ld1 (.o1 (.fld 0) (.t 3)))) (.c (.bool true)) (.o2 (.bin .neq) (.o1 .len (.o1 .ld1 (.o1 (.fld 1) (.t 2)))) (.o1 .len (.o1 .ld1 (.o1 (.fld 1) (.t 3)))))))]) (.cond 20 (.seq (.sts [(.set 4 (.c (.bool false)))]) .ret) .skip)) (.seq (.seq (.sts [(.set 5 (.c (.int .i64 0)))]) (.block 0 (.loop pgSame_L1))) (.seq (.sts [(.set 4 (.c (.bool true)))]) .ret))))
def pgSame_E : Res := [(none, (.t 4))]
theorem pgSame_C : Tryd.f11.body.bind (comp Tryd.prog pgSame_M Tryd.f11.ntmps) = some pgSame_S := by kernel_rfl
theorem pgSame_R : resE Tryd.prog pgSame_M Tryd.f11.results.toList = some pgSame_E := by kernel_rfl
theorem pgSame_H (G : Ctr) (hG : GOk Tryd.prog G) (a0 : Value) (a1 : Value) {h : H} {K : Value → H → Prop} {KP : List PanicEntry → H → Prop} (Hw : wpS G pgSame_S (retQ pgSame_E (callK K KP)) (envOf 0 [a0, a1] env0) h) : HCX Tryd.prog 11 [a0, a1] h K KP :=
  .inl ⟨by kernel_rfl, hc_of mixed hG Tryd.func11 pgSame_C pgSame_R (of_decide_eq_true (by kernel_rfl)) Hw⟩
def pgLaw_M : Nat → Bool := fun i => Nat.testBit 1209239414897200943597565 i
def pgLaw_L1 : S :=
  (.seq (.seq (.sts [(.chk [] (.c1 .len (.t 3))),
    (.chk [] (.c2 (.bin .lss) (.t 5) (.o1 .len (.t 3)))),
    (.set 23 (.o2 (.bin .lss) (.t 5) (.o1 .len (.t 3))))]) (.cond 23 .skip (.exit 0))) (.seq (.block 1 (.seq (.sts [(.chk [] (.c2 (.idxA 2) (.t 3) (.t 5))),
    (.chk [] (.c1 (.ldn 2) (.o2 (.idxA 2) (.t 3) (.t 5)))),
    (.set 30 (.o1 (.ldn 2) (.o2 (.idxA 2) (.t 3) (.t 5)))),
    (.eff [] (some 31) (.call 8) [(.t 30)] []),
    (.eff [] (some 32) (.call 7) [(.t 31)] []),
    (.chk [] (.c1 (.ext 0) (.t 32))),
    (.chk [] (.c1 (.ext 1) (.t 32))),
    (.eff [] (some 6) (.alloc 28 #[(str []), (.slice none 0 0)]) [] []),
    (.eff [] (some 7) (.alloc 31 #[(.int .i64 0), (.int .i64 0), (.int .i64 0)]) [] []),
    (.eff [] none (.store 2) [(.t 6), (.o1 (.ext 0) (.t 32))] []),
    (.eff [] none (.store 3) [(.t 7), (.o1 (.ext 1) (.t 32))] [])]) (.seq (.sts [(.chk [] (.c1 (.ldn 3) (.t 7))),
    (.chk [] (.cb 3 [])),
    (.chk [] (.c2 (.eqs true [(.int .i64), (.int .i64), (.int .i64)]) (.o1 (.ldn 3) (.t 7)) (.c (.agg #[(.int .i64 0), (.int .i64 0), (.int .i64 0)])))),
    (.chk [((.o2 (.eqs true [(.int .i64), (.int .i64), (.int .i64)]) (.o1 (.ldn 3) (.t 7)) (.c (.agg #[(.int .i64 0), (.int .i64 0), (.int .i64 0)]))), false)] (.c2 (.idxA 2) (.t 3) (.t 5))),
    (.chk [((.o2 (.eqs true [(.int .i64), (.int .i64), (.int .i64)]) (.o1 (.ldn 3) (.t 7)) (.c (.agg #[(.int .i64 0), (.int .i64 0), (.int .i64 0)]))), false)] (.c1 (.ldn 2) (.o2 (.idxA 2) (.t 3) (.t 5)))),
    (.chk [((.o2 (.eqs true [(.int .i64), (.int .i64), (.int .i64)]) (.o1 (.ldn 3) (.t 7)) (.c (.agg #[(.int .i64 0), (.int .i64 0), (.int .i64 0)]))), false)] (.c1 (.ldn 2) (.t 6))),
    (.set 43 (.o1 (.ldn 2) (.t 6))),
    (.set 42 (.o1 (.ldn 2) (.o2 (.idxA 2) (.t 3) (.t 5)))),
    (.set 38 (.o2 (.eqs true [(.int .i64), (.int .i64), (.int .i64)]) (.o1 (.ldn 3) (.t 7)) (.c (.agg #[(.int .i64 0), (.int .i64 0), (.int .i64 0)])))),
    (.eff [((.t 38), false)] (some 44) (.call 9) [(.t 42), (.t 43)] []),
    (.chk [((.t 38), false)] (.c1 .not (.t 44))),
    (.chk [] (.c3 .pick (.t 38) (.c (.bool true)) (.o1 .not (.t 44)))),
    (.set 46 (.o3 .pick (.t 38) (.c (.bool true)) (.o1 .not (.t 44))))]) (.cond 46 (.seq (.sts [(.set 2 (.c (.bool false)))]) .ret) .skip)))) (.sts [(.chk [] (.c2 (.bin .add) (.t 5) (.c (.int .i64 1)))),
    (.set 25 (.o2 (.bin .add) (.t 5) (.c (.int .i64 1)))),
    (.set 5 (.t 25))])))
def pgLaw_L2 : S :=
  (.seq (.seq (.sts [(.chk [] (.c1 .len (.t 3))),
    (.chk [] (.c2 (.bin .lss) (.t 10) (.o1 .len (.t 3)))),
    (.set 68 (.o2 (.bin .lss) (.t 10) (.o1 .len (.t 3))))]) (.cond 68 .skip (.exit 2))) (.seq (.block 3 (.seq (.sts [(.chk [] (.c2 (.idxA 3) (.t 8) (.t 10))),
    (.chk [] (.c1 (.ldn 3) (.o2 (.idxA 3) (.t 8) (.t 10)))),
    (.chk [] (.c2 (.idxA 2) (.t 3) (.t 10))),
    (.chk [] (.c1 (.ldn 2) (.o2 (.idxA 2) (.t 3) (.t 10)))),
    (.set 78 (.o1 (.ldn 2) (.o2 (.idxA 2) (.t 3) (.t 10)))),
    (.set 74 (.o1 (.ldn 3) (.o2 (.idxA 3) (.t 8) (.t 10)))),
    (.eff [] (some 79) (.call 11) [(.t 74), (.t 78)] []),
    (.chk [] (.c1 .not (.t 79))),
    (.set 80 (.o1 .not (.t 79)))]) (.cond 80 (.seq (.sts [(.set 2 (.c (.bool false)))]) .ret) .skip))) (.sts [(.chk [] (.c2 (.bin .add) (.t 10) (.c (.int .i64 1)))),
    (.set 70 (.o2 (.bin .add) (.t 10) (.c (.int .i64 1)))),
    (.set 10 (.t 70))])))
def pgLaw_S : S :=
  (.seq (.sts [(.set 2 (.c (.bool false)))]) (.seq (.sts [(.eff [] (some 12) (.call 4) [(.t 0)] []),
    (.set 3 (.t 12))]) (.seq (.sts [(.eff [] (some 14) (.call 5) [(.t 3)] []),
    (.set 4 (.t 14))]) (.seq (.seq (.sts [(.chk [] (.c1 .len (.t 3))),
    (.eff [] (some 18) (.call 6) [(.t 4), (.o1 .len (.t 3))] []),
    (.chk [] (.c1 .not (.t 18))),
    (.set 19 (.o1 .not (.t 18)))]) (.cond 19 (.seq (.sts [(.set 2 (.c (.bool false)))]) .ret) .skip)) (.seq (.seq (.sts [(.set 5 (.c (.int .i64 0)))]) (.block 0 (.loop pgLaw_L1))) (.seq (.seq (.sts [(.chk [] (.c1 .lens (.t 4))),
    (.chk [] (.c2 (.bin .gtr) (.o1 .lens (.t 4)) (.c (.int .i64 65536)))),
    (.set 49 (.o2 (.bin .gtr) (.o1 .lens (.t 4)) (.c (.int .i64 65536))))]) (.cond 49 (.seq (.sts [(.set 2 (.c (.bool true)))]) .ret) .skip)) (.seq (.sts [(.eff [] (some 52) (.call 10) [(.t 4)] []),
    (.chk [] (.c1 (.ext 0) (.t 52))),
    (.chk [] (.c1 (.ext 1) (.t 52))),
    (.eff [] (some 9) (.alloc 31 #[(.int .i64 0), (.int .i64 0), (.int .i64 0)]) [] []),
    (.set 8 (.o1 (.ext 0) (.t 52))),
    (.eff [] none (.store 3) [(.t 9), (.o1 (.ext 1) (.t 52))] [])]) (.seq (.seq (.sts [(.chk [] (.c1 (.ldn 3) (.t 9))),
    (.chk [] (.cb 3 [])),
    (.chk [] (.c2 (.eqs true [(.int .i64), (.int .i64), (.int .i64)]) (.o1 (.ldn 3) (.t 9)) (.c (.agg #[(.int .i64 0), (.int .i64 0), (.int .i64 0)])))),
    (.chk [((.o2 (.eqs true [(.int .i64), (.int .i64), (.int .i64)]) (.o1 (.ldn 3) (.t 9)) (.c (.agg #[(.int .i64 0), (.int .i64 0), (.int .i64 0)]))), false)] (.c1 .len (.t 8))),
    (.chk [((.o2 (.eqs true [(.int .i64), (.int .i64), (.int .i64)]) (.o1 (.ldn 3) (.t 9)) (.c (.agg #[(.int .i64 0), (.int .i64 0), (.int .i64 0)]))), false)] (.c1 .len (.t 3))),
    (.chk [((.o2 (.eqs true [(.int .i64), (.int .i64), (.int .i64)]) (.o1 (.ldn 3) (.t 9)) (.c (.agg #[(.int .i64 0), (.int .i64 0), (.int .i64 0)]))), false)] (.c2 (.bin .neq) (.o1 .len (.t 8)) (.o1 .len (.t 3)))),
    (.chk [] (.c3 .pick (.o2 (.eqs true [(.int .i64), (.int .i64), (.int .i64)]) (.o1 (.ldn 3) (.t 9)) (.c (.agg #[(.int .i64 0), (.int .i64 0), (.int .i64 0)]))) (.c (.bool true)) (.o2 (.bin .neq) (.o1 .len (.t 8)) (.o1 .len (.t 3))))),
    (.set 64 (.o3 .pick (.o2 (.eqs true [(.int .i64), (.int .i64), (.int .i64)]) (.o1 (.ldn 3) (.t 9)) (.c (.agg #[(.int .i64 0), (.int .i64 0), (.int .i64 0)]))) (.c (.bool true)) (.o2 (.bin .neq) (.o1 .len (.t 8)) (.o1 .len (.t 3)))))]) (.cond 64 (.seq (.sts [(.set 2 (.c (.bool false)))]) .ret) .skip)) (.seq (.seq (.sts [(.set 10 (.c (.int .i64 0)))]) (.block 2 (.loop pgLaw_L2))) (.seq (.sts [(.set 2 (.c (.bool true)))]) .ret))))))))))
def pgLaw_E : Res := [(none, (.t 2))]
theorem pgLaw_C : Tryd.f3.body.bind (comp Tryd.prog pgLaw_M Tryd.f3.ntmps) = some pgLaw_S := by kernel_rfl
theorem pgLaw_R : resE Tryd.prog pgLaw_M Tryd.f3.results.toList = some pgLaw_E := by kernel_rfl
theorem pgLaw_H (G : Ctr) (hG : GOk Tryd.prog G) (a0 : Value) {h : H} {K : Value → H → Prop} {KP : List PanicEntry → H → Prop} (Hw : wpS G pgLaw_S (retQ pgLaw_E (callK K KP)) (envOf 0 [a0] env0) h) : HCX Tryd.prog 3 [a0] h K KP :=
  .inl ⟨by kernel_rfl, hc_of mixed hG Tryd.func3 pgLaw_C pgLaw_R (of_decide_eq_true (by kernel_rfl)) Hw⟩
end Go.Proofs.YteiopegaiohglaaDoor
