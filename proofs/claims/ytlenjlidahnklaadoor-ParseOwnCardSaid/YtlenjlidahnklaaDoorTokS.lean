/- The small statements of functions of the program, as the closed computation gives them (written by a program of ours; checked by the kernel below). -/
import Derived.Test.YtlenjlidahnklaaDoorEvB
import Derived.Test.YtlenjlidahnklaaDoorProg
import Derived.KernelRfl
import Derived.Test.YtlenjlidahnklaaDoorGapS
namespace Go.Proofs.YtlenjlidahnklaaDoor
open Go Go.Ev
def lxIsDigit_M : Nat → Bool := fun i => Nat.testBit 5 i
def lxIsDigit_S : S :=
  (.seq (.sts [(.set 2 (.c (.bool false)))]) (.seq (.sts [(.chk [] (.c2 (.bin .leq) (.c (.int .u8 48)) (.t 0))),
    (.chk [((.o2 (.bin .leq) (.c (.int .u8 48)) (.t 0)), true)] (.c2 (.bin .leq) (.t 0) (.c (.int .u8 57)))),
    (.chk [] (.c3 .pick (.o2 (.bin .leq) (.c (.int .u8 48)) (.t 0)) (.o2 (.bin .leq) (.t 0) (.c (.int .u8 57))) (.c (.bool false)))),
    (.set 2 (.o3 .pick (.o2 (.bin .leq) (.c (.int .u8 48)) (.t 0)) (.o2 (.bin .leq) (.t 0) (.c (.int .u8 57))) (.c (.bool false))))]) .ret))
def lxIsDigit_E : Res := [(none, (.t 2))]
theorem lxIsDigit_C : Tryd.f50.body.bind (comp Tryd.prog lxIsDigit_M Tryd.f50.ntmps) = some lxIsDigit_S := by kernel_rfl
theorem lxIsDigit_R : resE Tryd.prog lxIsDigit_M Tryd.f50.results.toList = some lxIsDigit_E := by kernel_rfl
theorem lxIsDigit_H (G : Ctr) (hG : GOk Tryd.prog G) (a0 : Value) {h : H} {K : Value → H → Prop} {KP : List PanicEntry → H → Prop} (Hw : wpS G lxIsDigit_S (retQ lxIsDigit_E (callK K KP)) (envOf 0 [a0] env0) h) : HCX Tryd.prog 50 [a0] h K KP :=
  .inl ⟨by kernel_rfl, hc_of mixed hG Tryd.func50 lxIsDigit_C lxIsDigit_R (of_decide_eq_true (by kernel_rfl)) Hw⟩
def lxIsUpper_M : Nat → Bool := fun i => Nat.testBit 5 i
def lxIsUpper_S : S :=
  (.seq (.sts [(.set 2 (.c (.bool false)))]) (.seq (.sts [(.chk [] (.c2 (.bin .leq) (.c (.int .u8 65)) (.t 0))),
    (.chk [((.o2 (.bin .leq) (.c (.int .u8 65)) (.t 0)), true)] (.c2 (.bin .leq) (.t 0) (.c (.int .u8 90)))),
    (.chk [] (.c3 .pick (.o2 (.bin .leq) (.c (.int .u8 65)) (.t 0)) (.o2 (.bin .leq) (.t 0) (.c (.int .u8 90))) (.c (.bool false)))),
    (.chk [((.o3 .pick (.o2 (.bin .leq) (.c (.int .u8 65)) (.t 0)) (.o2 (.bin .leq) (.t 0) (.c (.int .u8 90))) (.c (.bool false))), false)] (.c2 (.bin .eql) (.t 0) (.c (.int .u8 95)))),
    (.chk [] (.c3 .pick (.o3 .pick (.o2 (.bin .leq) (.c (.int .u8 65)) (.t 0)) (.o2 (.bin .leq) (.t 0) (.c (.int .u8 90))) (.c (.bool false))) (.c (.bool true)) (.o2 (.bin .eql) (.t 0) (.c (.int .u8 95))))),
    (.set 2 (.o3 .pick (.o3 .pick (.o2 (.bin .leq) (.c (.int .u8 65)) (.t 0)) (.o2 (.bin .leq) (.t 0) (.c (.int .u8 90))) (.c (.bool false))) (.c (.bool true)) (.o2 (.bin .eql) (.t 0) (.c (.int .u8 95)))))]) .ret))
def lxIsUpper_E : Res := [(none, (.t 2))]
theorem lxIsUpper_C : Tryd.f60.body.bind (comp Tryd.prog lxIsUpper_M Tryd.f60.ntmps) = some lxIsUpper_S := by kernel_rfl
theorem lxIsUpper_R : resE Tryd.prog lxIsUpper_M Tryd.f60.results.toList = some lxIsUpper_E := by kernel_rfl
theorem lxIsUpper_H (G : Ctr) (hG : GOk Tryd.prog G) (a0 : Value) {h : H} {K : Value → H → Prop} {KP : List PanicEntry → H → Prop} (Hw : wpS G lxIsUpper_S (retQ lxIsUpper_E (callK K KP)) (envOf 0 [a0] env0) h) : HCX Tryd.prog 60 [a0] h K KP :=
  .inl ⟨by kernel_rfl, hc_of mixed hG Tryd.func60 lxIsUpper_C lxIsUpper_R (of_decide_eq_true (by kernel_rfl)) Hw⟩
def lxIsLower_M : Nat → Bool := fun i => Nat.testBit 5 i
def lxIsLower_S : S :=
  (.seq (.sts [(.set 2 (.c (.bool false)))]) (.seq (.sts [(.chk [] (.c2 (.bin .leq) (.c (.int .u8 97)) (.t 0))),
    (.chk [((.o2 (.bin .leq) (.c (.int .u8 97)) (.t 0)), true)] (.c2 (.bin .leq) (.t 0) (.c (.int .u8 122)))),
    (.chk [] (.c3 .pick (.o2 (.bin .leq) (.c (.int .u8 97)) (.t 0)) (.o2 (.bin .leq) (.t 0) (.c (.int .u8 122))) (.c (.bool false)))),
    (.set 2 (.o3 .pick (.o2 (.bin .leq) (.c (.int .u8 97)) (.t 0)) (.o2 (.bin .leq) (.t 0) (.c (.int .u8 122))) (.c (.bool false))))]) .ret))
def lxIsLower_E : Res := [(none, (.t 2))]
theorem lxIsLower_C : Tryd.f61.body.bind (comp Tryd.prog lxIsLower_M Tryd.f61.ntmps) = some lxIsLower_S := by kernel_rfl
theorem lxIsLower_R : resE Tryd.prog lxIsLower_M Tryd.f61.results.toList = some lxIsLower_E := by kernel_rfl
theorem lxIsLower_H (G : Ctr) (hG : GOk Tryd.prog G) (a0 : Value) {h : H} {K : Value → H → Prop} {KP : List PanicEntry → H → Prop} (Hw : wpS G lxIsLower_S (retQ lxIsLower_E (callK K KP)) (envOf 0 [a0] env0) h) : HCX Tryd.prog 61 [a0] h K KP :=
  .inl ⟨by kernel_rfl, hc_of mixed hG Tryd.func61 lxIsLower_C lxIsLower_R (of_decide_eq_true (by kernel_rfl)) Hw⟩
def lxIsWord_M : Nat → Bool := fun i => Nat.testBit 5 i
def lxIsWord_S : S :=
  (.seq (.sts [(.set 2 (.c (.bool false)))]) (.seq (.sts [(.eff [] (some 4) (.call 50) [(.t 0)] []),
    (.eff [((.t 4), false)] (some 7) (.call 60) [(.t 0)] []),
    (.chk [] (.c3 .pick (.t 4) (.c (.bool true)) (.t 7))),
    (.eff [((.o3 .pick (.t 4) (.c (.bool true)) (.t 7)), false)] (some 11) (.call 61) [(.t 0)] []),
    (.chk [] (.c3 .pick (.o3 .pick (.t 4) (.c (.bool true)) (.t 7)) (.c (.bool true)) (.t 11))),
    (.set 2 (.o3 .pick (.o3 .pick (.t 4) (.c (.bool true)) (.t 7)) (.c (.bool true)) (.t 11)))]) .ret))
def lxIsWord_E : Res := [(none, (.t 2))]
theorem lxIsWord_C : Tryd.f53.body.bind (comp Tryd.prog lxIsWord_M Tryd.f53.ntmps) = some lxIsWord_S := by kernel_rfl
theorem lxIsWord_R : resE Tryd.prog lxIsWord_M Tryd.f53.results.toList = some lxIsWord_E := by kernel_rfl
theorem lxIsWord_H (G : Ctr) (hG : GOk Tryd.prog G) (a0 : Value) {h : H} {K : Value → H → Prop} {KP : List PanicEntry → H → Prop} (Hw : wpS G lxIsWord_S (retQ lxIsWord_E (callK K KP)) (envOf 0 [a0] env0) h) : HCX Tryd.prog 53 [a0] h K KP :=
  .inl ⟨by kernel_rfl, hc_of mixed hG Tryd.func53 lxIsWord_C lxIsWord_R (of_decide_eq_true (by kernel_rfl)) Hw⟩
def lxPeek_M : Nat → Bool := fun i => Nat.testBit 65555 i
def lxPeek_S : S :=
  (.seq (.sts [(.set 4 (.c (.int .u8 0)))]) (.seq (.seq (.sts [(.chk [] (.c1 .nilck (.t 0))),
    (.chk [] (.c1 (.fld 1) (.t 0))),
    (.chk [] (.c1 .ld1 (.o1 (.fld 1) (.t 0)))),
    (.chk [] (.c2 (.bin .add) (.o1 .ld1 (.o1 (.fld 1) (.t 0))) (.t 1))),
    (.chk [] (.c1 .nilck (.t 0))),
    (.chk [] (.c1 (.fld 0) (.t 0))),
    (.chk [] (.c1 .ld1 (.o1 (.fld 0) (.t 0)))),
    (.chk [] (.c1 .lens (.o1 .ld1 (.o1 (.fld 0) (.t 0))))),
    (.chk [] (.c2 (.bin .lss) (.o2 (.bin .add) (.o1 .ld1 (.o1 (.fld 1) (.t 0))) (.t 1)) (.o1 .lens (.o1 .ld1 (.o1 (.fld 0) (.t 0)))))),
    (.set 16 (.o2 (.bin .lss) (.o2 (.bin .add) (.o1 .ld1 (.o1 (.fld 1) (.t 0))) (.t 1)) (.o1 .lens (.o1 .ld1 (.o1 (.fld 0) (.t 0))))))]) (.cond 16 (.seq (.sts [(.chk [] (.c1 .nilck (.t 0))),
    (.chk [] (.c1 (.fld 0) (.t 0))),
    (.chk [] (.c1 .ld1 (.o1 (.fld 0) (.t 0)))),
    (.chk [] (.c1 .nilck (.t 0))),
    (.chk [] (.c1 (.fld 1) (.t 0))),
    (.chk [] (.c1 .ld1 (.o1 (.fld 1) (.t 0)))),
    (.chk [] (.c2 (.bin .add) (.o1 .ld1 (.o1 (.fld 1) (.t 0))) (.t 1))),
    (.chk [] (.c2 .idxS (.o1 .ld1 (.o1 (.fld 0) (.t 0))) (.o2 (.bin .add) (.o1 .ld1 (.o1 (.fld 1) (.t 0))) (.t 1)))),
    (.set 4 (.o2 .idxS (.o1 .ld1 (.o1 (.fld 0) (.t 0))) (.o2 (.bin .add) (.o1 .ld1 (.o1 (.fld 1) (.t 0))) (.t 1))))]) .ret) .skip)) (.seq (.sts [(.set 4 (.c (.int .u8 0)))]) .ret)))
def lxPeek_E : Res := [(none, (.t 4))]
theorem lxPeek_C : Tryd.f51.body.bind (comp Tryd.prog lxPeek_M Tryd.f51.ntmps) = some lxPeek_S := by kernel_rfl
theorem lxPeek_R : resE Tryd.prog lxPeek_M Tryd.f51.results.toList = some lxPeek_E := by kernel_rfl
theorem lxPeek_H (G : Ctr) (hG : GOk Tryd.prog G) (a0 : Value) (a1 : Value) {h : H} {K : Value → H → Prop} {KP : List PanicEntry → H → Prop} (Hw : wpS G lxPeek_S (retQ lxPeek_E (callK K KP)) (envOf 0 [a0, a1] env0) h) : HCX Tryd.prog 51 [a0, a1] h K KP :=
  .inl ⟨by kernel_rfl, hc_of mixed hG Tryd.func51 lxPeek_C lxPeek_R (of_decide_eq_true (by kernel_rfl)) Hw⟩
def lxRun_M : Nat → Bool := fun i => Nat.testBit 1048595 i
def lxRun_L1 : S :=
  (.seq (.seq (.sts [(.chk [] (.c1 .nilck (.t 0))),
    (.chk [] (.c1 (.fld 0) (.t 0))),
    (.chk [] (.c1 .ld1 (.o1 (.fld 0) (.t 0)))),
    (.chk [] (.c1 .lens (.o1 .ld1 (.o1 (.fld 0) (.t 0))))),
    (.chk [] (.c2 (.bin .lss) (.t 1) (.o1 .lens (.o1 .ld1 (.o1 (.fld 0) (.t 0)))))),
    (.chk [((.o2 (.bin .lss) (.t 1) (.o1 .lens (.o1 .ld1 (.o1 (.fld 0) (.t 0))))), true)] (.c1 .nilck (.t 0))),
    (.chk [((.o2 (.bin .lss) (.t 1) (.o1 .lens (.o1 .ld1 (.o1 (.fld 0) (.t 0))))), true)] (.c1 (.fld 0) (.t 0))),
    (.chk [((.o2 (.bin .lss) (.t 1) (.o1 .lens (.o1 .ld1 (.o1 (.fld 0) (.t 0))))), true)] (.c1 .ld1 (.o1 (.fld 0) (.t 0)))),
    (.chk [((.o2 (.bin .lss) (.t 1) (.o1 .lens (.o1 .ld1 (.o1 (.fld 0) (.t 0))))), true)] (.c2 .idxS (.o1 .ld1 (.o1 (.fld 0) (.t 0))) (.t 1))),
    (.set 18 (.o2 .idxS (.o1 .ld1 (.o1 (.fld 0) (.t 0))) (.t 1))),
    (.set 12 (.o2 (.bin .lss) (.t 1) (.o1 .lens (.o1 .ld1 (.o1 (.fld 0) (.t 0)))))),
    (.eff [((.t 12), true)] (some 19) (.call 53) [(.t 18)] []),
    (.chk [] (.c3 .pick (.t 12) (.t 19) (.c (.bool false)))),
    (.set 20 (.o3 .pick (.t 12) (.t 19) (.c (.bool false))))]) (.cond 20 .skip (.exit 0))) (.block 1 (.sts [(.chk [] (.c2 (.bin .add) (.t 1) (.c (.int .i64 1)))),
    (.set 22 (.o2 (.bin .add) (.t 1) (.c (.int .i64 1)))),
    (.set 1 (.t 22))])))
def lxRun_S : S :=
  (.seq (.sts [(.set 4 (.c (.int .i64 0)))]) (.seq (.block 0 (.loop lxRun_L1)) (.seq (.sts [(.set 4 (.t 1))]) .ret)))
def lxRun_E : Res := [(none, (.t 4))]
theorem lxRun_C : Tryd.f58.body.bind (comp Tryd.prog lxRun_M Tryd.f58.ntmps) = some lxRun_S := by kernel_rfl
theorem lxRun_R : resE Tryd.prog lxRun_M Tryd.f58.results.toList = some lxRun_E := by kernel_rfl
theorem lxRun_H (G : Ctr) (hG : GOk Tryd.prog G) (a0 : Value) (a1 : Value) {h : H} {K : Value → H → Prop} {KP : List PanicEntry → H → Prop} (Hw : wpS G lxRun_S (retQ lxRun_E (callK K KP)) (envOf 0 [a0, a1] env0) h) : HCX Tryd.prog 58 [a0, a1] h K KP :=
  .inl ⟨by kernel_rfl, hc_of mixed hG Tryd.func58 lxRun_C lxRun_R (of_decide_eq_true (by kernel_rfl)) Hw⟩
def lxFault_M : Nat → Bool := fun i => Nat.testBit 198 i
def lxFault_S : S :=
  (.seq (.sts [(.eff [] (some 6) (.alloc 80 #[(.int .i64 0), (str []), (.int .i64 0), (.int .i64 0), (.int .i64 0), (.int .i64 0)]) [] []),
    (.eff [] (some 7) (.alloc 27 #[(.int .i64 0), (.int .i64 0), (.int .i64 0)]) [] [])]) (.seq (.sts [(.chk [] (.cb 6 [])),
    (.chk [] (.cb 3 [(0, (1, (.t 1))), (2, (1, (.t 2)))])),
    (.eff [] none (.store 6) [(.t 6), (.c (.agg #[(.int .i64 0), (str []), (.int .i64 0), (.int .i64 0), (.int .i64 0), (.int .i64 0)]))] []),
    (.eff [] none (.store 3) [(.t 7), (.o2 (.put 2 1) (.o2 (.put 0 1) (.c (.agg #[(.int .i64 0), (.int .i64 0), (.int .i64 0)])) (.t 1)) (.t 2))] [])]) .ret))
def lxFault_E : Res := [((some (.c1 (.ldn 6) (.t 6))), (.o1 (.ldn 6) (.t 6))), ((some (.c1 (.ldn 3) (.t 7))), (.o1 (.ldn 3) (.t 7)))]
theorem lxFault_C : Tryd.f49.body.bind (comp Tryd.prog lxFault_M Tryd.f49.ntmps) = some lxFault_S := by kernel_rfl
theorem lxFault_R : resE Tryd.prog lxFault_M Tryd.f49.results.toList = some lxFault_E := by kernel_rfl
theorem lxFault_H (G : Ctr) (hG : GOk Tryd.prog G) (a0 : Value) (a1 : Value) (a2 : Value) {h : H} {K : Value → H → Prop} {KP : List PanicEntry → H → Prop} (Hw : wpS G lxFault_S (retQ lxFault_E (callK K KP)) (envOf 0 [a0, a1, a2] env0) h) : HCX Tryd.prog 49 [a0, a1, a2] h K KP :=
  .inl ⟨by kernel_rfl, hc_of mixed hG Tryd.func49 lxFault_C lxFault_R (of_decide_eq_true (by kernel_rfl)) Hw⟩
def lxWord_M : Nat → Bool := fun i => Nat.testBit 2216203255933 i
def lxWord_S : S :=
  (.seq (.sts [(.eff [] (some 2) (.alloc 80 #[(.int .i64 0), (str []), (.int .i64 0), (.int .i64 0), (.int .i64 0), (.int .i64 0)]) [] []),
    (.eff [] (some 3) (.alloc 27 #[(.int .i64 0), (.int .i64 0), (.int .i64 0)]) [] [])]) (.seq (.sts [(.chk [] (.c1 .nilck (.t 0))),
    (.chk [] (.c1 (.fld 1) (.t 0))),
    (.chk [] (.c1 .ld1 (.o1 (.fld 1) (.t 0)))),
    (.set 4 (.o1 .ld1 (.o1 (.fld 1) (.t 0))))]) (.seq (.sts [(.eff [] (some 13) (.call 58) [(.t 0), (.t 4)] []),
    (.set 5 (.t 13))]) (.seq (.seq (.sts [(.chk [] (.c2 (.bin .sub) (.t 5) (.t 4))),
    (.chk [] (.c2 (.bin .gtr) (.o2 (.bin .sub) (.t 5) (.t 4)) (.c (.int .i64 64)))),
    (.set 17 (.o2 (.bin .gtr) (.o2 (.bin .sub) (.t 5) (.t 4)) (.c (.int .i64 64))))]) (.cond 17 (.seq (.sts [(.eff [] (some 20) (.call 49) [(.t 0), (.c (.int .i64 14)), (.t 4)] []),
    (.chk [] (.c1 (.ext 0) (.t 20))),
    (.chk [] (.c1 (.ext 1) (.t 20))),
    (.eff [] none (.store 6) [(.t 2), (.o1 (.ext 0) (.t 20))] []),
    (.eff [] none (.store 3) [(.t 3), (.o1 (.ext 1) (.t 20))] [])]) .ret) .skip)) (.seq (.sts [(.chk [] (.c1 .nilck (.t 0))),
    (.chk [] (.c1 (.fld 0) (.t 0))),
    (.chk [] (.c1 .ld1 (.o1 (.fld 0) (.t 0)))),
    (.chk [] (.c3 .sub (.o1 .ld1 (.o1 (.fld 0) (.t 0))) (.t 4) (.t 5))),
    (.set 6 (.o3 .sub (.o1 .ld1 (.o1 (.fld 0) (.t 0))) (.t 4) (.t 5)))]) (.seq (.sts [(.chk [] (.c1 .nilck (.t 0))),
    (.chk [] (.c1 (.fld 1) (.t 0))),
    (.eff [] none (.store 1) [(.o1 (.fld 1) (.t 0)), (.t 5)] [])]) (.seq (.block 0 (.seq (.sts [(.chk [] (.c2 (.bin .eql) (.t 6) (.c (str [110, 111, 116])))),
    (.set 34 (.o2 (.bin .eql) (.t 6) (.c (str [110, 111, 116]))))]) (.cond 34 (.seq (.sts [(.chk [] (.cb 6 [(0, (1, (.c (.int .i64 10)))), (4, (1, (.t 4))), (5, (1, (.t 5)))])),
    (.chk [] (.cb 3 [])),
    (.eff [] none (.store 6) [(.t 2), (.o2 (.put 5 1) (.o2 (.put 4 1) (.o2 (.put 0 1) (.c (.agg #[(.int .i64 0), (str []), (.int .i64 0), (.int .i64 0), (.int .i64 0), (.int .i64 0)])) (.c (.int .i64 10))) (.t 4)) (.t 5))] []),
    (.eff [] none (.store 3) [(.t 3), (.c (.agg #[(.int .i64 0), (.int .i64 0), (.int .i64 0)]))] [])]) .ret) (.seq (.sts [(.chk [] (.c2 .idxS (.t 6) (.c (.int .i64 0)))),
    (.eff [] (some 44) (.call 61) [(.o2 .idxS (.t 6) (.c (.int .i64 0)))] []),
    (.set 41 (.t 44))]) (.cond 41 (.seq (.sts [(.chk [] (.cb 6 [(0, (1, (.c (.int .i64 1)))), (1, (1, (.t 6))), (4, (1, (.t 4))), (5, (1, (.t 5)))])),
    (.chk [] (.cb 3 [])),
    (.eff [] none (.store 6) [(.t 2), (.o2 (.put 5 1) (.o2 (.put 4 1) (.o2 (.put 1 1) (.o2 (.put 0 1) (.c (.agg #[(.int .i64 0), (str []), (.int .i64 0), (.int .i64 0), (.int .i64 0), (.int .i64 0)])) (.c (.int .i64 1))) (.t 6)) (.t 4)) (.t 5))] []),
    (.eff [] none (.store 3) [(.t 3), (.c (.agg #[(.int .i64 0), (.int .i64 0), (.int .i64 0)]))] [])]) .ret) .skip))))) (.seq (.sts [(.chk [] (.cb 6 [(0, (1, (.c (.int .i64 2)))), (1, (1, (.t 6))), (4, (1, (.t 4))), (5, (1, (.t 5)))])),
    (.chk [] (.cb 3 [])),
    (.eff [] none (.store 6) [(.t 2), (.o2 (.put 5 1) (.o2 (.put 4 1) (.o2 (.put 1 1) (.o2 (.put 0 1) (.c (.agg #[(.int .i64 0), (str []), (.int .i64 0), (.int .i64 0), (.int .i64 0), (.int .i64 0)])) (.c (.int .i64 2))) (.t 6)) (.t 4)) (.t 5))] []),
    (.eff [] none (.store 3) [(.t 3), (.c (.agg #[(.int .i64 0), (.int .i64 0), (.int .i64 0)]))] [])]) .ret))))))))
def lxWord_E : Res := [((some (.c1 (.ldn 6) (.t 2))), (.o1 (.ldn 6) (.t 2))), ((some (.c1 (.ldn 3) (.t 3))), (.o1 (.ldn 3) (.t 3)))]
theorem lxWord_C : Tryd.f54.body.bind (comp Tryd.prog lxWord_M Tryd.f54.ntmps) = some lxWord_S := by kernel_rfl
theorem lxWord_R : resE Tryd.prog lxWord_M Tryd.f54.results.toList = some lxWord_E := by kernel_rfl
theorem lxWord_H (G : Ctr) (hG : GOk Tryd.prog G) (a0 : Value) {h : H} {K : Value → H → Prop} {KP : List PanicEntry → H → Prop} (Hw : wpS G lxWord_S (retQ lxWord_E (callK K KP)) (envOf 0 [a0] env0) h) : HCX Tryd.prog 54 [a0] h K KP :=
  .inl ⟨by kernel_rfl, hc_of mixed hG Tryd.func54 lxWord_C lxWord_R (of_decide_eq_true (by kernel_rfl)) Hw⟩
def lxInteger_M : Nat → Bool := fun i => Nat.testBit 288231476739179517 i
def lxInteger_L1 : S :=
  (.seq (.seq (.sts [(.chk [] (.c2 (.bin .lss) (.t 7) (.t 6))),
    (.set 30 (.o2 (.bin .lss) (.t 7) (.t 6)))]) (.cond 30 .skip (.exit 0))) (.seq (.block 1 (.seq (.sts [(.chk [] (.c1 .nilck (.t 0))),
    (.chk [] (.c1 (.fld 0) (.t 0))),
    (.chk [] (.c1 .ld1 (.o1 (.fld 0) (.t 0)))),
    (.chk [] (.c2 .idxS (.o1 .ld1 (.o1 (.fld 0) (.t 0))) (.t 7))),
    (.set 38 (.o2 .idxS (.o1 .ld1 (.o1 (.fld 0) (.t 0))) (.t 7))),
    (.eff [] (some 39) (.call 50) [(.t 38)] []),
    (.chk [] (.c1 .not (.t 39))),
    (.set 40 (.o1 .not (.t 39)))]) (.cond 40 (.seq (.sts [(.eff [] (some 43) (.call 49) [(.t 0), (.c (.int .i64 13)), (.t 4)] []),
    (.chk [] (.c1 (.ext 0) (.t 43))),
    (.chk [] (.c1 (.ext 1) (.t 43))),
    (.eff [] none (.store 6) [(.t 2), (.o1 (.ext 0) (.t 43))] []),
    (.eff [] none (.store 3) [(.t 3), (.o1 (.ext 1) (.t 43))] [])]) .ret) .skip))) (.sts [(.chk [] (.c2 (.bin .add) (.t 7) (.c (.int .i64 1)))),
    (.set 32 (.o2 (.bin .add) (.t 7) (.c (.int .i64 1)))),
    (.set 7 (.t 32))])))
def lxInteger_S : S :=
  (.seq (.sts [(.eff [] (some 2) (.alloc 80 #[(.int .i64 0), (str []), (.int .i64 0), (.int .i64 0), (.int .i64 0), (.int .i64 0)]) [] []),
    (.eff [] (some 3) (.alloc 27 #[(.int .i64 0), (.int .i64 0), (.int .i64 0)]) [] [])]) (.seq (.sts [(.chk [] (.c1 .nilck (.t 0))),
    (.chk [] (.c1 (.fld 1) (.t 0))),
    (.chk [] (.c1 .ld1 (.o1 (.fld 1) (.t 0)))),
    (.set 4 (.o1 .ld1 (.o1 (.fld 1) (.t 0))))]) (.seq (.sts [(.set 5 (.t 4))]) (.seq (.seq (.sts [(.chk [] (.c1 .nilck (.t 0))),
    (.chk [] (.c1 (.fld 0) (.t 0))),
    (.chk [] (.c1 .ld1 (.o1 (.fld 0) (.t 0)))),
    (.chk [] (.c2 .idxS (.o1 .ld1 (.o1 (.fld 0) (.t 0))) (.t 4))),
    (.chk [] (.c2 (.bin .eql) (.o2 .idxS (.o1 .ld1 (.o1 (.fld 0) (.t 0))) (.t 4)) (.c (.int .u8 45)))),
    (.set 21 (.o2 (.bin .eql) (.o2 .idxS (.o1 .ld1 (.o1 (.fld 0) (.t 0))) (.t 4)) (.c (.int .u8 45))))]) (.cond 21 (.sts [(.chk [] (.c2 (.bin .add) (.t 5) (.c (.int .i64 1)))),
    (.set 23 (.o2 (.bin .add) (.t 5) (.c (.int .i64 1)))),
    (.set 5 (.t 23))]) .skip)) (.seq (.sts [(.eff [] (some 26) (.call 58) [(.t 0), (.t 5)] []),
    (.set 6 (.t 26))]) (.seq (.seq (.sts [(.set 7 (.t 5))]) (.block 0 (.loop lxInteger_L1))) (.seq (.sts [(.chk [] (.c1 .nilck (.t 0))),
    (.chk [] (.c1 (.fld 0) (.t 0))),
    (.chk [] (.c1 .ld1 (.o1 (.fld 0) (.t 0)))),
    (.chk [] (.c3 .sub (.o1 .ld1 (.o1 (.fld 0) (.t 0))) (.t 4) (.t 6))),
    (.set 53 (.o3 .sub (.o1 .ld1 (.o1 (.fld 0) (.t 0))) (.t 4) (.t 6))),
    (.eff [] (some 54) (.call 59) [(.t 53), (.c (.int .i64 10)), (.c (.int .i64 64))] []),
    (.chk [] (.c1 (.ext 0) (.t 54))),
    (.chk [] (.c1 (.ext 1) (.t 54))),
    (.set 8 (.o1 (.ext 0) (.t 54))),
    (.set 9 (.o1 (.ext 1) (.t 54)))]) (.seq (.seq (.sts [(.chk [] (.c2 (.eqn .iface true) (.t 9) (.c .nilIface))),
    (.set 58 (.o2 (.eqn .iface true) (.t 9) (.c .nilIface)))]) (.cond 58 (.seq (.sts [(.eff [] (some 61) (.call 49) [(.t 0), (.c (.int .i64 13)), (.t 4)] []),
    (.chk [] (.c1 (.ext 0) (.t 61))),
    (.chk [] (.c1 (.ext 1) (.t 61))),
    (.eff [] none (.store 6) [(.t 2), (.o1 (.ext 0) (.t 61))] []),
    (.eff [] none (.store 3) [(.t 3), (.o1 (.ext 1) (.t 61))] [])]) .ret) .skip)) (.seq (.sts [(.chk [] (.c1 .nilck (.t 0))),
    (.chk [] (.c1 (.fld 1) (.t 0))),
    (.eff [] none (.store 1) [(.o1 (.fld 1) (.t 0)), (.t 6)] [])]) (.seq (.sts [(.chk [] (.cb 6 [(0, (1, (.c (.int .i64 3)))), (2, (1, (.t 8))), (4, (1, (.t 4))), (5, (1, (.t 6)))])),
    (.chk [] (.cb 3 [])),
    (.eff [] none (.store 6) [(.t 2), (.o2 (.put 5 1) (.o2 (.put 4 1) (.o2 (.put 2 1) (.o2 (.put 0 1) (.c (.agg #[(.int .i64 0), (str []), (.int .i64 0), (.int .i64 0), (.int .i64 0), (.int .i64 0)])) (.c (.int .i64 3))) (.t 8)) (.t 4)) (.t 6))] []),
    (.eff [] none (.store 3) [(.t 3), (.c (.agg #[(.int .i64 0), (.int .i64 0), (.int .i64 0)]))] [])]) .ret))))))))))
def lxInteger_E : Res := [((some (.c1 (.ldn 6) (.t 2))), (.o1 (.ldn 6) (.t 2))), ((some (.c1 (.ldn 3) (.t 3))), (.o1 (.ldn 3) (.t 3)))]
theorem lxInteger_C : Tryd.f52.body.bind (comp Tryd.prog lxInteger_M Tryd.f52.ntmps) = some lxInteger_S := by kernel_rfl
theorem lxInteger_R : resE Tryd.prog lxInteger_M Tryd.f52.results.toList = some lxInteger_E := by kernel_rfl
theorem lxInteger_H (G : Ctr) (hG : GOk Tryd.prog G) (a0 : Value) {h : H} {K : Value → H → Prop} {KP : List PanicEntry → H → Prop} (Hw : wpS G lxInteger_S (retQ lxInteger_E (callK K KP)) (envOf 0 [a0] env0) h) : HCX Tryd.prog 52 [a0] h K KP :=
  .inl ⟨by kernel_rfl, hc_of mixed hG Tryd.func52 lxInteger_C lxInteger_R (of_decide_eq_true (by kernel_rfl)) Hw⟩
def lxHex_M : Nat → Bool := fun i => Nat.testBit 1049101 i
def lxHex_S : S :=
  (.seq (.sts [(.set 2 (.c (.int .i64 0)))]) (.seq (.block 0 (.seq (.sts [(.eff [] (some 5) (.call 50) [(.t 0)] []),
    (.set 3 (.t 5))]) (.cond 3 (.seq (.sts [(.chk [] (.c2 (.bin .sub) (.t 0) (.c (.int .u8 48)))),
    (.chk [] (.c1 (.conv .i64) (.o2 (.bin .sub) (.t 0) (.c (.int .u8 48))))),
    (.set 2 (.o1 (.conv .i64) (.o2 (.bin .sub) (.t 0) (.c (.int .u8 48)))))]) .ret) (.seq (.sts [(.chk [] (.c2 (.bin .leq) (.c (.int .u8 97)) (.t 0))),
    (.chk [((.o2 (.bin .leq) (.c (.int .u8 97)) (.t 0)), true)] (.c2 (.bin .leq) (.t 0) (.c (.int .u8 102)))),
    (.chk [] (.c3 .pick (.o2 (.bin .leq) (.c (.int .u8 97)) (.t 0)) (.o2 (.bin .leq) (.t 0) (.c (.int .u8 102))) (.c (.bool false)))),
    (.set 9 (.o3 .pick (.o2 (.bin .leq) (.c (.int .u8 97)) (.t 0)) (.o2 (.bin .leq) (.t 0) (.c (.int .u8 102))) (.c (.bool false))))]) (.cond 9 (.seq (.sts [(.chk [] (.c2 (.bin .sub) (.t 0) (.c (.int .u8 97)))),
    (.chk [] (.c1 (.conv .i64) (.o2 (.bin .sub) (.t 0) (.c (.int .u8 97))))),
    (.chk [] (.c2 (.bin .add) (.o1 (.conv .i64) (.o2 (.bin .sub) (.t 0) (.c (.int .u8 97)))) (.c (.int .i64 10)))),
    (.set 2 (.o2 (.bin .add) (.o1 (.conv .i64) (.o2 (.bin .sub) (.t 0) (.c (.int .u8 97)))) (.c (.int .i64 10))))]) .ret) (.seq (.sts [(.chk [] (.c2 (.bin .leq) (.c (.int .u8 65)) (.t 0))),
    (.chk [((.o2 (.bin .leq) (.c (.int .u8 65)) (.t 0)), true)] (.c2 (.bin .leq) (.t 0) (.c (.int .u8 70)))),
    (.chk [] (.c3 .pick (.o2 (.bin .leq) (.c (.int .u8 65)) (.t 0)) (.o2 (.bin .leq) (.t 0) (.c (.int .u8 70))) (.c (.bool false)))),
    (.set 20 (.o3 .pick (.o2 (.bin .leq) (.c (.int .u8 65)) (.t 0)) (.o2 (.bin .leq) (.t 0) (.c (.int .u8 70))) (.c (.bool false))))]) (.cond 20 (.seq (.sts [(.chk [] (.c2 (.bin .sub) (.t 0) (.c (.int .u8 65)))),
    (.chk [] (.c1 (.conv .i64) (.o2 (.bin .sub) (.t 0) (.c (.int .u8 65))))),
    (.chk [] (.c2 (.bin .add) (.o1 (.conv .i64) (.o2 (.bin .sub) (.t 0) (.c (.int .u8 65)))) (.c (.int .i64 10)))),
    (.set 2 (.o2 (.bin .add) (.o1 (.conv .i64) (.o2 (.bin .sub) (.t 0) (.c (.int .u8 65)))) (.c (.int .i64 10))))]) .ret) .skip))))))) (.seq (.sts [(.set 2 (.c (.int .i64 (-1))))]) .ret)))
def lxHex_E : Res := [(none, (.t 2))]
theorem lxHex_C : Tryd.f66.body.bind (comp Tryd.prog lxHex_M Tryd.f66.ntmps) = some lxHex_S := by kernel_rfl
theorem lxHex_R : resE Tryd.prog lxHex_M Tryd.f66.results.toList = some lxHex_E := by kernel_rfl
theorem lxHex_H (G : Ctr) (hG : GOk Tryd.prog G) (a0 : Value) {h : H} {K : Value → H → Prop} {KP : List PanicEntry → H → Prop} (Hw : wpS G lxHex_S (retQ lxHex_E (callK K KP)) (envOf 0 [a0] env0) h) : HCX Tryd.prog 66 [a0] h K KP :=
  .inl ⟨by kernel_rfl, hc_of mixed hG Tryd.func66 lxHex_C lxHex_R (of_decide_eq_true (by kernel_rfl)) Hw⟩
def lxEscape_M : Nat → Bool := fun i => Nat.testBit 2147833277 i
def lxEscape_S : S :=
  (.seq (.sts [(.set 2 (.c (.int .u8 0))),
    (.set 3 (.c (.int .i64 0)))]) (.seq (.seq (.sts [(.eff [] (some 7) (.call 51) [(.t 0), (.c (.int .i64 1))] [])]) (.block 0 (.seq (.sts [(.chk [] (.c2 (.bin .eql) (.t 7) (.c (.int .u8 34)))),
    (.set 8 (.o2 (.bin .eql) (.t 7) (.c (.int .u8 34))))]) (.cond 8 (.seq (.sts [(.set 2 (.c (.int .u8 34))),
    (.set 3 (.c (.int .i64 2)))]) .ret) (.seq (.sts [(.chk [] (.c2 (.bin .eql) (.t 7) (.c (.int .u8 92)))),
    (.set 10 (.o2 (.bin .eql) (.t 7) (.c (.int .u8 92))))]) (.cond 10 (.seq (.sts [(.set 2 (.c (.int .u8 92))),
    (.set 3 (.c (.int .i64 2)))]) .ret) (.seq (.sts [(.chk [] (.c2 (.bin .eql) (.t 7) (.c (.int .u8 110)))),
    (.set 12 (.o2 (.bin .eql) (.t 7) (.c (.int .u8 110))))]) (.cond 12 (.seq (.sts [(.set 2 (.c (.int .u8 10))),
    (.set 3 (.c (.int .i64 2)))]) .ret) (.seq (.sts [(.chk [] (.c2 (.bin .eql) (.t 7) (.c (.int .u8 116)))),
    (.set 14 (.o2 (.bin .eql) (.t 7) (.c (.int .u8 116))))]) (.cond 14 (.seq (.sts [(.set 2 (.c (.int .u8 9))),
    (.set 3 (.c (.int .i64 2)))]) .ret) (.seq (.sts [(.chk [] (.c2 (.bin .eql) (.t 7) (.c (.int .u8 114)))),
    (.set 16 (.o2 (.bin .eql) (.t 7) (.c (.int .u8 114))))]) (.cond 16 (.seq (.sts [(.set 2 (.c (.int .u8 13))),
    (.set 3 (.c (.int .i64 2)))]) .ret) (.seq (.sts [(.chk [] (.c2 (.bin .eql) (.t 7) (.c (.int .u8 120)))),
    (.set 18 (.o2 (.bin .eql) (.t 7) (.c (.int .u8 120))))]) (.cond 18 (.seq (.sts [(.eff [] (some 21) (.call 51) [(.t 0), (.c (.int .i64 2))] []),
    (.eff [] (some 22) (.call 66) [(.t 21)] []),
    (.eff [] (some 24) (.call 51) [(.t 0), (.c (.int .i64 3))] []),
    (.eff [] (some 25) (.call 66) [(.t 24)] []),
    (.set 4 (.t 22)),
    (.set 5 (.t 25))]) (.seq (.sts [(.chk [] (.c2 (.bin .geq) (.t 4) (.c (.int .i64 0)))),
    (.chk [((.o2 (.bin .geq) (.t 4) (.c (.int .i64 0))), true)] (.c2 (.bin .geq) (.t 5) (.c (.int .i64 0)))),
    (.chk [] (.c3 .pick (.o2 (.bin .geq) (.t 4) (.c (.int .i64 0))) (.o2 (.bin .geq) (.t 5) (.c (.int .i64 0))) (.c (.bool false)))),
    (.set 31 (.o3 .pick (.o2 (.bin .geq) (.t 4) (.c (.int .i64 0))) (.o2 (.bin .geq) (.t 5) (.c (.int .i64 0))) (.c (.bool false))))]) (.cond 31 (.seq (.sts [(.chk [] (.c2 (.bits .shl) (.t 4) (.c (.int .u64 4)))),
    (.chk [] (.c2 (.bits .or) (.o2 (.bits .shl) (.t 4) (.c (.int .u64 4))) (.t 5))),
    (.chk [] (.c1 (.conv .u8) (.o2 (.bits .or) (.o2 (.bits .shl) (.t 4) (.c (.int .u64 4))) (.t 5)))),
    (.set 2 (.o1 (.conv .u8) (.o2 (.bits .or) (.o2 (.bits .shl) (.t 4) (.c (.int .u64 4))) (.t 5)))),
    (.set 3 (.c (.int .i64 4)))]) .ret) .skip))) .skip)))))))))))))) (.seq (.sts [(.set 2 (.c (.int .u8 0))),
    (.set 3 (.c (.int .i64 0)))]) .ret)))
def lxEscape_E : Res := [(none, (.t 2)), (none, (.t 3))]
theorem lxEscape_C : Tryd.f62.body.bind (comp Tryd.prog lxEscape_M Tryd.f62.ntmps) = some lxEscape_S := by kernel_rfl
theorem lxEscape_R : resE Tryd.prog lxEscape_M Tryd.f62.results.toList = some lxEscape_E := by kernel_rfl
theorem lxEscape_H (G : Ctr) (hG : GOk Tryd.prog G) (a0 : Value) {h : H} {K : Value → H → Prop} {KP : List PanicEntry → H → Prop} (Hw : wpS G lxEscape_S (retQ lxEscape_E (callK K KP)) (envOf 0 [a0] env0) h) : HCX Tryd.prog 62 [a0] h K KP :=
  .inl ⟨by kernel_rfl, hc_of mixed hG Tryd.func62 lxEscape_C lxEscape_R (of_decide_eq_true (by kernel_rfl)) Hw⟩
def lxText_M : Nat → Bool := fun i => Nat.testBit 4954196898318740530076319997 i
def lxText_L1 : S :=
  (.block 1 (.seq (.seq (.sts [(.chk [] (.c1 .nilck (.t 0))),
    (.chk [] (.c1 (.fld 1) (.t 0))),
    (.chk [] (.c1 .ld1 (.o1 (.fld 1) (.t 0)))),
    (.chk [] (.c1 .nilck (.t 0))),
    (.chk [] (.c1 (.fld 0) (.t 0))),
    (.chk [] (.c1 .ld1 (.o1 (.fld 0) (.t 0)))),
    (.chk [] (.c1 .lens (.o1 .ld1 (.o1 (.fld 0) (.t 0))))),
    (.chk [] (.c2 (.bin .geq) (.o1 .ld1 (.o1 (.fld 1) (.t 0))) (.o1 .lens (.o1 .ld1 (.o1 (.fld 0) (.t 0)))))),
    (.chk [((.o2 (.bin .geq) (.o1 .ld1 (.o1 (.fld 1) (.t 0))) (.o1 .lens (.o1 .ld1 (.o1 (.fld 0) (.t 0))))), false)] (.c1 .nilck (.t 0))),
    (.chk [((.o2 (.bin .geq) (.o1 .ld1 (.o1 (.fld 1) (.t 0))) (.o1 .lens (.o1 .ld1 (.o1 (.fld 0) (.t 0))))), false)] (.c1 (.fld 0) (.t 0))),
    (.chk [((.o2 (.bin .geq) (.o1 .ld1 (.o1 (.fld 1) (.t 0))) (.o1 .lens (.o1 .ld1 (.o1 (.fld 0) (.t 0))))), false)] (.c1 .ld1 (.o1 (.fld 0) (.t 0)))),
    (.chk [((.o2 (.bin .geq) (.o1 .ld1 (.o1 (.fld 1) (.t 0))) (.o1 .lens (.o1 .ld1 (.o1 (.fld 0) (.t 0))))), false)] (.c1 .nilck (.t 0))),
    (.chk [((.o2 (.bin .geq) (.o1 .ld1 (.o1 (.fld 1) (.t 0))) (.o1 .lens (.o1 .ld1 (.o1 (.fld 0) (.t 0))))), false)] (.c1 (.fld 1) (.t 0))),
    (.chk [((.o2 (.bin .geq) (.o1 .ld1 (.o1 (.fld 1) (.t 0))) (.o1 .lens (.o1 .ld1 (.o1 (.fld 0) (.t 0))))), false)] (.c1 .ld1 (.o1 (.fld 1) (.t 0)))),
    (.chk [((.o2 (.bin .geq) (.o1 .ld1 (.o1 (.fld 1) (.t 0))) (.o1 .lens (.o1 .ld1 (.o1 (.fld 0) (.t 0))))), false)] (.c2 .idxS (.o1 .ld1 (.o1 (.fld 0) (.t 0))) (.o1 .ld1 (.o1 (.fld 1) (.t 0))))),
    (.chk [((.o2 (.bin .geq) (.o1 .ld1 (.o1 (.fld 1) (.t 0))) (.o1 .lens (.o1 .ld1 (.o1 (.fld 0) (.t 0))))), false)] (.c2 (.bin .lss) (.o2 .idxS (.o1 .ld1 (.o1 (.fld 0) (.t 0))) (.o1 .ld1 (.o1 (.fld 1) (.t 0)))) (.c (.int .u8 32)))),
    (.chk [] (.c3 .pick (.o2 (.bin .geq) (.o1 .ld1 (.o1 (.fld 1) (.t 0))) (.o1 .lens (.o1 .ld1 (.o1 (.fld 0) (.t 0))))) (.c (.bool true)) (.o2 (.bin .lss) (.o2 .idxS (.o1 .ld1 (.o1 (.fld 0) (.t 0))) (.o1 .ld1 (.o1 (.fld 1) (.t 0)))) (.c (.int .u8 32))))),
    (.set 40 (.o3 .pick (.o2 (.bin .geq) (.o1 .ld1 (.o1 (.fld 1) (.t 0))) (.o1 .lens (.o1 .ld1 (.o1 (.fld 0) (.t 0))))) (.c (.bool true)) (.o2 (.bin .lss) (.o2 .idxS (.o1 .ld1 (.o1 (.fld 0) (.t 0))) (.o1 .ld1 (.o1 (.fld 1) (.t 0)))) (.c (.int .u8 32)))))]) (.cond 40 (.seq (.sts [(.eff [] (some 43) (.call 49) [(.t 0), (.c (.int .i64 11)), (.t 4)] []),
    (.chk [] (.c1 (.ext 0) (.t 43))),
    (.chk [] (.c1 (.ext 1) (.t 43))),
    (.eff [] none (.store 6) [(.t 2), (.o1 (.ext 0) (.t 43))] []),
    (.eff [] none (.store 3) [(.t 3), (.o1 (.ext 1) (.t 43))] [])]) .ret) .skip)) (.seq (.sts [(.chk [] (.c1 .nilck (.t 0))),
    (.chk [] (.c1 (.fld 0) (.t 0))),
    (.chk [] (.c1 .ld1 (.o1 (.fld 0) (.t 0)))),
    (.chk [] (.c1 .nilck (.t 0))),
    (.chk [] (.c1 (.fld 1) (.t 0))),
    (.chk [] (.c1 .ld1 (.o1 (.fld 1) (.t 0)))),
    (.chk [] (.c2 .idxS (.o1 .ld1 (.o1 (.fld 0) (.t 0))) (.o1 .ld1 (.o1 (.fld 1) (.t 0))))),
    (.set 6 (.o2 .idxS (.o1 .ld1 (.o1 (.fld 0) (.t 0))) (.o1 .ld1 (.o1 (.fld 1) (.t 0))))),
    (.set 7 (.c (.int .i64 1)))]) (.seq (.seq (.sts [(.chk [] (.c2 (.bin .eql) (.t 6) (.c (.int .u8 34)))),
    (.set 56 (.o2 (.bin .eql) (.t 6) (.c (.int .u8 34))))]) (.cond 56 (.seq (.sts [(.chk [] (.c1 .nilck (.t 0))),
    (.chk [] (.c1 (.fld 1) (.t 0))),
    (.chk [] (.c1 .ld1 (.o1 (.fld 1) (.t 0)))),
    (.chk [] (.c2 (.bin .add) (.o1 .ld1 (.o1 (.fld 1) (.t 0))) (.c (.int .i64 1)))),
    (.chk [] (.c1 .nilck (.t 0))),
    (.chk [] (.c1 (.fld 1) (.t 0))),
    (.set 61 (.o2 (.bin .add) (.o1 .ld1 (.o1 (.fld 1) (.t 0))) (.c (.int .i64 1)))),
    (.eff [] none (.store 1) [(.o1 (.fld 1) (.t 0)), (.t 61)] [])]) (.seq (.sts [(.chk [] (.c1 .nilck (.t 0))),
    (.chk [] (.c1 (.fld 1) (.t 0))),
    (.chk [] (.c1 .ld1 (.o1 (.fld 1) (.t 0)))),
    (.chk [] (.cb 3 [])),
    (.set 70 (.o1 .ld1 (.o1 (.fld 1) (.t 0)))),
    (.eff [] (some 65) .b2s [(.t 5)] [([], ((.o1 (.fld 1) (.t 0)), none))]),
    (.chk [] (.cb 6 [(0, (1, (.c (.int .i64 4)))), (1, (1, (.t 65))), (4, (1, (.t 4))), (5, (1, (.t 70)))])),
    (.eff [] none (.store 6) [(.t 2), (.o2 (.put 5 1) (.o2 (.put 4 1) (.o2 (.put 1 1) (.o2 (.put 0 1) (.c (.agg #[(.int .i64 0), (str []), (.int .i64 0), (.int .i64 0), (.int .i64 0), (.int .i64 0)])) (.c (.int .i64 4))) (.t 65)) (.t 4)) (.t 70))] []),
    (.eff [] none (.store 3) [(.t 3), (.c (.agg #[(.int .i64 0), (.int .i64 0), (.int .i64 0)]))] [])]) .ret)) .skip)) (.seq (.seq (.sts [(.chk [] (.c2 (.bin .eql) (.t 6) (.c (.int .u8 92)))),
    (.set 74 (.o2 (.bin .eql) (.t 6) (.c (.int .u8 92))))]) (.cond 74 (.seq (.sts [(.eff [] (some 77) (.call 62) [(.t 0)] []),
    (.chk [] (.c1 (.ext 0) (.t 77))),
    (.chk [] (.c1 (.ext 1) (.t 77))),
    (.set 6 (.o1 (.ext 0) (.t 77))),
    (.set 7 (.o1 (.ext 1) (.t 77)))]) (.seq (.sts [(.chk [] (.c2 (.bin .eql) (.t 7) (.c (.int .i64 0)))),
    (.set 81 (.o2 (.bin .eql) (.t 7) (.c (.int .i64 0))))]) (.cond 81 (.seq (.sts [(.chk [] (.c1 .nilck (.t 0))),
    (.chk [] (.c1 (.fld 1) (.t 0))),
    (.chk [] (.c1 .ld1 (.o1 (.fld 1) (.t 0)))),
    (.set 86 (.o1 .ld1 (.o1 (.fld 1) (.t 0)))),
    (.eff [] (some 87) (.call 49) [(.t 0), (.c (.int .i64 12)), (.t 86)] []),
    (.chk [] (.c1 (.ext 0) (.t 87))),
    (.chk [] (.c1 (.ext 1) (.t 87))),
    (.eff [] none (.store 6) [(.t 2), (.o1 (.ext 0) (.t 87))] []),
    (.eff [] none (.store 3) [(.t 3), (.o1 (.ext 1) (.t 87))] [])]) .ret) .skip))) .skip)) (.seq (.seq (.sts [(.chk [] (.c1 .len (.t 5))),
    (.chk [] (.c2 (.bin .eql) (.o1 .len (.t 5)) (.c (.int .i64 255)))),
    (.set 92 (.o2 (.bin .eql) (.o1 .len (.t 5)) (.c (.int .i64 255))))]) (.cond 92 (.seq (.sts [(.eff [] (some 95) (.call 49) [(.t 0), (.c (.int .i64 15)), (.t 4)] []),
    (.chk [] (.c1 (.ext 0) (.t 95))),
    (.chk [] (.c1 (.ext 1) (.t 95))),
    (.eff [] none (.store 6) [(.t 2), (.o1 (.ext 0) (.t 95))] []),
    (.eff [] none (.store 3) [(.t 3), (.o1 (.ext 1) (.t 95))] [])]) .ret) .skip)) (.seq (.sts [(.eff [] (some 100) (.bsl 5 1 1 [(.int .u8 0)] [0]) [(.t 6)] []),
    (.eff [] (some 101) (.app 5 1 1 [(.int .u8 0)]) [(.t 5), (.t 100)] []),
    (.set 5 (.t 101))]) (.sts [(.chk [] (.c1 .nilck (.t 0))),
    (.chk [] (.c1 (.fld 1) (.t 0))),
    (.chk [] (.c1 .ld1 (.o1 (.fld 1) (.t 0)))),
    (.chk [] (.c2 (.bin .add) (.o1 .ld1 (.o1 (.fld 1) (.t 0))) (.t 7))),
    (.chk [] (.c1 .nilck (.t 0))),
    (.chk [] (.c1 (.fld 1) (.t 0))),
    (.set 107 (.o2 (.bin .add) (.o1 .ld1 (.o1 (.fld 1) (.t 0))) (.t 7))),
    (.eff [] none (.store 1) [(.o1 (.fld 1) (.t 0)), (.t 107)] [])]))))))))
def lxText_S : S :=
  (.seq (.sts [(.eff [] (some 2) (.alloc 80 #[(.int .i64 0), (str []), (.int .i64 0), (.int .i64 0), (.int .i64 0), (.int .i64 0)]) [] []),
    (.eff [] (some 3) (.alloc 27 #[(.int .i64 0), (.int .i64 0), (.int .i64 0)]) [] [])]) (.seq (.sts [(.chk [] (.c1 .nilck (.t 0))),
    (.chk [] (.c1 (.fld 1) (.t 0))),
    (.chk [] (.c1 .ld1 (.o1 (.fld 1) (.t 0)))),
    (.set 4 (.o1 .ld1 (.o1 (.fld 1) (.t 0))))]) (.seq (.sts [(.set 5 (.c (.slice none 0 0)))]) (.seq (.sts [(.chk [] (.c1 .nilck (.t 0))),
    (.chk [] (.c1 (.fld 1) (.t 0))),
    (.chk [] (.c1 .ld1 (.o1 (.fld 1) (.t 0)))),
    (.chk [] (.c2 (.bin .add) (.o1 .ld1 (.o1 (.fld 1) (.t 0))) (.c (.int .i64 1)))),
    (.chk [] (.c1 .nilck (.t 0))),
    (.chk [] (.c1 (.fld 1) (.t 0))),
    (.set 16 (.o2 (.bin .add) (.o1 .ld1 (.o1 (.fld 1) (.t 0))) (.c (.int .i64 1)))),
    (.eff [] none (.store 1) [(.o1 (.fld 1) (.t 0)), (.t 16)] [])]) (.block 0 (.loop lxText_L1))))))
def lxText_E : Res := [((some (.c1 (.ldn 6) (.t 2))), (.o1 (.ldn 6) (.t 2))), ((some (.c1 (.ldn 3) (.t 3))), (.o1 (.ldn 3) (.t 3)))]
theorem lxText_C : Tryd.f55.body.bind (comp Tryd.prog lxText_M Tryd.f55.ntmps) = some lxText_S := by kernel_rfl
theorem lxText_R : resE Tryd.prog lxText_M Tryd.f55.results.toList = some lxText_E := by kernel_rfl
theorem lxText_H (G : Ctr) (hG : GOk Tryd.prog G) (a0 : Value) {h : H} {K : Value → H → Prop} {KP : List PanicEntry → H → Prop} (Hw : wpS G lxText_S (retQ lxText_E (callK K KP)) (envOf 0 [a0] env0) h) : HCX Tryd.prog 55 [a0] h K KP :=
  .inl ⟨by kernel_rfl, hc_of mixed hG Tryd.func55 lxText_C lxText_R (of_decide_eq_true (by kernel_rfl)) Hw⟩
def lxNext_M : Nat → Bool := fun i => Nat.testBit 154884250268604471248487165 i
def lxNext_L1 : S :=
  (.seq (.sts [(.chk [] (.c2 (.bin .lss) (.t 75) (.t 74))),
    (.set 76 (.o2 (.bin .lss) (.t 75) (.t 74)))]) (.seq (.cond 76 .skip (.exit 1)) (.seq (.block 2 (.seq (.sts [(.chk [] (.c2 (.idxA 3) (.t 73) (.t 75))),
    (.chk [] (.c1 (.ldn 3) (.o2 (.idxA 3) (.t 73) (.t 75)))),
    (.set 78 (.o1 (.ldn 3) (.o2 (.idxA 3) (.t 73) (.t 75)))),
    (.eff [] (some 9) (.alloc 115 #[(str []), (.int .i64 0), (.int .i64 0)]) [] []),
    (.eff [] none (.store 3) [(.t 9), (.t 78)] [])]) (.seq (.sts [(.chk [] (.c1 .nilck (.t 0))),
    (.chk [] (.c1 (.fld 0) (.t 0))),
    (.chk [] (.c1 .ld1 (.o1 (.fld 0) (.t 0)))),
    (.chk [] (.c2 .subLo (.o1 .ld1 (.o1 (.fld 0) (.t 0))) (.t 6))),
    (.chk [] (.c1 (.fld 0) (.t 9))),
    (.chk [] (.c1 .ld1 (.o1 (.fld 0) (.t 9)))),
    (.set 86 (.o1 .ld1 (.o1 (.fld 0) (.t 9)))),
    (.set 84 (.o2 .subLo (.o1 .ld1 (.o1 (.fld 0) (.t 0))) (.t 6))),
    (.eff [] (some 87) (.call 56) [(.t 84), (.t 86)] [])]) (.cond 87 (.seq (.sts [(.chk [] (.c1 (.fld 0) (.t 9))),
    (.chk [] (.c1 .ld1 (.o1 (.fld 0) (.t 9)))),
    (.chk [] (.c1 .lens (.o1 .ld1 (.o1 (.fld 0) (.t 9))))),
    (.chk [] (.c2 (.bin .add) (.t 6) (.o1 .lens (.o1 .ld1 (.o1 (.fld 0) (.t 9)))))),
    (.chk [] (.c1 .nilck (.t 0))),
    (.chk [] (.c1 (.fld 1) (.t 0))),
    (.set 93 (.o2 (.bin .add) (.t 6) (.o1 .lens (.o1 .ld1 (.o1 (.fld 0) (.t 9)))))),
    (.eff [] none (.store 1) [(.o1 (.fld 1) (.t 0)), (.t 93)] [])]) (.seq (.sts [(.chk [] (.c1 (.fld 1) (.t 9))),
    (.chk [] (.c1 .ld1 (.o1 (.fld 1) (.t 9)))),
    (.chk [] (.c1 (.fld 2) (.t 9))),
    (.chk [] (.c1 .ld1 (.o1 (.fld 2) (.t 9)))),
    (.chk [] (.c1 .nilck (.t 0))),
    (.chk [] (.c1 (.fld 1) (.t 0))),
    (.chk [] (.c1 .ld1 (.o1 (.fld 1) (.t 0)))),
    (.chk [] (.cb 6 [(0, (1, (.o1 .ld1 (.o1 (.fld 1) (.t 9))))), (3, (1, (.o1 .ld1 (.o1 (.fld 2) (.t 9))))), (4, (1, (.t 6))), (5, (1, (.o1 .ld1 (.o1 (.fld 1) (.t 0)))))])),
    (.chk [] (.cb 3 [])),
    (.set 105 (.o2 (.put 5 1) (.o2 (.put 4 1) (.o2 (.put 3 1) (.o2 (.put 0 1) (.c (.agg #[(.int .i64 0), (str []), (.int .i64 0), (.int .i64 0), (.int .i64 0), (.int .i64 0)])) (.o1 .ld1 (.o1 (.fld 1) (.t 9)))) (.o1 .ld1 (.o1 (.fld 2) (.t 9)))) (.t 6)) (.o1 .ld1 (.o1 (.fld 1) (.t 0))))),
    (.eff [] none (.store 6) [(.t 2), (.t 105)] []),
    (.eff [] none (.store 3) [(.t 3), (.c (.agg #[(.int .i64 0), (.int .i64 0), (.int .i64 0)]))] [])]) .ret)) .skip)))) (.sts [(.chk [] (.c2 (.bin .add) (.t 75) (.c (.int .i64 1)))),
    (.set 107 (.o2 (.bin .add) (.t 75) (.c (.int .i64 1)))),
    (.set 75 (.t 107))]))))
def lxNext_S : S :=
  (.seq (.sts [(.eff [] (some 2) (.alloc 80 #[(.int .i64 0), (str []), (.int .i64 0), (.int .i64 0), (.int .i64 0), (.int .i64 0)]) [] []),
    (.eff [] (some 3) (.alloc 27 #[(.int .i64 0), (.int .i64 0), (.int .i64 0)]) [] [])]) (.seq (.seq (.sts [(.eff [] (some 12) (.call 48) [(.t 0)] []),
    (.chk [] (.c1 (.ext 0) (.t 12))),
    (.chk [] (.c1 (.ext 1) (.t 12))),
    (.set 4 (.o1 (.ext 0) (.t 12))),
    (.set 5 (.o1 (.ext 1) (.t 12)))]) (.seq (.sts [(.chk [] (.c1 .not (.t 5))),
    (.set 16 (.o1 .not (.t 5)))]) (.cond 16 (.seq (.sts [(.eff [] (some 19) (.call 49) [(.t 0), (.c (.int .i64 16)), (.t 4)] []),
    (.chk [] (.c1 (.ext 0) (.t 19))),
    (.chk [] (.c1 (.ext 1) (.t 19))),
    (.eff [] none (.store 6) [(.t 2), (.o1 (.ext 0) (.t 19))] []),
    (.eff [] none (.store 3) [(.t 3), (.o1 (.ext 1) (.t 19))] [])]) .ret) .skip))) (.seq (.sts [(.chk [] (.c1 .nilck (.t 0))),
    (.chk [] (.c1 (.fld 1) (.t 0))),
    (.chk [] (.c1 .ld1 (.o1 (.fld 1) (.t 0)))),
    (.set 6 (.o1 .ld1 (.o1 (.fld 1) (.t 0))))]) (.seq (.seq (.sts [(.chk [] (.c1 .nilck (.t 0))),
    (.chk [] (.c1 (.fld 0) (.t 0))),
    (.chk [] (.c1 .ld1 (.o1 (.fld 0) (.t 0)))),
    (.chk [] (.c1 .lens (.o1 .ld1 (.o1 (.fld 0) (.t 0))))),
    (.chk [] (.c2 (.bin .eql) (.t 6) (.o1 .lens (.o1 .ld1 (.o1 (.fld 0) (.t 0)))))),
    (.set 32 (.o2 (.bin .eql) (.t 6) (.o1 .lens (.o1 .ld1 (.o1 (.fld 0) (.t 0))))))]) (.cond 32 (.seq (.sts [(.chk [] (.cb 6 [(0, (1, (.c (.int .i64 0)))), (4, (1, (.t 6))), (5, (1, (.t 6)))])),
    (.chk [] (.cb 3 [])),
    (.eff [] none (.store 6) [(.t 2), (.o2 (.put 5 1) (.o2 (.put 4 1) (.o2 (.put 0 1) (.c (.agg #[(.int .i64 0), (str []), (.int .i64 0), (.int .i64 0), (.int .i64 0), (.int .i64 0)])) (.c (.int .i64 0))) (.t 6)) (.t 6))] []),
    (.eff [] none (.store 3) [(.t 3), (.c (.agg #[(.int .i64 0), (.int .i64 0), (.int .i64 0)]))] [])]) .ret) .skip)) (.seq (.sts [(.chk [] (.c1 .nilck (.t 0))),
    (.chk [] (.c1 (.fld 0) (.t 0))),
    (.chk [] (.c1 .ld1 (.o1 (.fld 0) (.t 0)))),
    (.chk [] (.c2 .idxS (.o1 .ld1 (.o1 (.fld 0) (.t 0))) (.t 6))),
    (.set 7 (.o2 .idxS (.o1 .ld1 (.o1 (.fld 0) (.t 0))) (.t 6)))]) (.seq (.block 0 (.seq (.sts [(.eff [] (some 45) (.call 50) [(.t 7)] []),
    (.chk [((.t 45), false)] (.c2 (.bin .eql) (.t 7) (.c (.int .u8 45)))),
    (.eff [((.o2 (.bin .eql) (.t 7) (.c (.int .u8 45))), true), ((.t 45), false)] (some 51) (.call 51) [(.t 0), (.c (.int .i64 1))] []),
    (.eff [((.o2 (.bin .eql) (.t 7) (.c (.int .u8 45))), true), ((.t 45), false)] (some 52) (.call 50) [(.t 51)] []),
    (.chk [((.t 45), false)] (.c3 .pick (.o2 (.bin .eql) (.t 7) (.c (.int .u8 45))) (.t 52) (.c (.bool false)))),
    (.chk [] (.c3 .pick (.t 45) (.c (.bool true)) (.o3 .pick (.o2 (.bin .eql) (.t 7) (.c (.int .u8 45))) (.t 52) (.c (.bool false))))),
    (.set 43 (.o3 .pick (.t 45) (.c (.bool true)) (.o3 .pick (.o2 (.bin .eql) (.t 7) (.c (.int .u8 45))) (.t 52) (.c (.bool false)))))]) (.cond 43 (.seq (.sts [(.eff [] (some 56) (.call 52) [(.t 0)] []),
    (.chk [] (.c1 (.ext 0) (.t 56))),
    (.chk [] (.c1 (.ext 1) (.t 56))),
    (.eff [] none (.store 6) [(.t 2), (.o1 (.ext 0) (.t 56))] []),
    (.eff [] none (.store 3) [(.t 3), (.o1 (.ext 1) (.t 56))] [])]) .ret) (.seq (.sts [(.eff [] (some 61) (.call 53) [(.t 7)] []),
    (.set 59 (.t 61))]) (.cond 59 (.seq (.sts [(.eff [] (some 63) (.call 54) [(.t 0)] []),
    (.chk [] (.c1 (.ext 0) (.t 63))),
    (.chk [] (.c1 (.ext 1) (.t 63))),
    (.eff [] none (.store 6) [(.t 2), (.o1 (.ext 0) (.t 63))] []),
    (.eff [] none (.store 3) [(.t 3), (.o1 (.ext 1) (.t 63))] [])]) .ret) (.seq (.sts [(.chk [] (.c2 (.bin .eql) (.t 7) (.c (.int .u8 34)))),
    (.set 66 (.o2 (.bin .eql) (.t 7) (.c (.int .u8 34))))]) (.cond 66 (.seq (.sts [(.eff [] (some 70) (.call 55) [(.t 0)] []),
    (.chk [] (.c1 (.ext 0) (.t 70))),
    (.chk [] (.c1 (.ext 1) (.t 70))),
    (.eff [] none (.store 6) [(.t 2), (.o1 (.ext 0) (.t 70))] []),
    (.eff [] none (.store 3) [(.t 3), (.o1 (.ext 1) (.t 70))] [])]) .ret) .skip))))))) (.seq (.seq (.sts [(.chk [] (.c1 .ld1 (.c (.pointer (some ⟨0, 0, none⟩))))),
    (.set 73 (.o1 .ld1 (.c (.pointer (some ⟨0, 0, none⟩))))),
    (.chk [] (.c1 .len (.t 73))),
    (.set 74 (.o1 .len (.t 73))),
    (.set 75 (.c (.int .i64 0)))]) (.block 1 (.loop lxNext_L1))) (.seq (.sts [(.eff [] (some 110) (.call 49) [(.t 0), (.c (.int .i64 10)), (.t 6)] []),
    (.chk [] (.c1 (.ext 0) (.t 110))),
    (.chk [] (.c1 (.ext 1) (.t 110))),
    (.eff [] none (.store 6) [(.t 2), (.o1 (.ext 0) (.t 110))] []),
    (.eff [] none (.store 3) [(.t 3), (.o1 (.ext 1) (.t 110))] [])]) .ret))))))))
def lxNext_E : Res := [((some (.c1 (.ldn 6) (.t 2))), (.o1 (.ldn 6) (.t 2))), ((some (.c1 (.ldn 3) (.t 3))), (.o1 (.ldn 3) (.t 3)))]
theorem lxNext_C : Tryd.f47.body.bind (comp Tryd.prog lxNext_M Tryd.f47.ntmps) = some lxNext_S := by kernel_rfl
theorem lxNext_R : resE Tryd.prog lxNext_M Tryd.f47.results.toList = some lxNext_E := by kernel_rfl
theorem lxNext_H (G : Ctr) (hG : GOk Tryd.prog G) (a0 : Value) {h : H} {K : Value → H → Prop} {KP : List PanicEntry → H → Prop} (Hw : wpS G lxNext_S (retQ lxNext_E (callK K KP)) (envOf 0 [a0] env0) h) : HCX Tryd.prog 47 [a0] h K KP :=
  .inl ⟨by kernel_rfl, hc_of mixed hG Tryd.func47 lxNext_C lxNext_R (of_decide_eq_true (by kernel_rfl)) Hw⟩
def lxEach_M : Nat → Bool := fun i => Nat.testBit 36511417587 i
def lxEach_L1 : S :=
  (.block 1 (.seq (.sts [(.eff [] (some 17) (.call 47) [(.t 5)] []),
    (.chk [] (.c1 (.ext 0) (.t 17))),
    (.chk [] (.c1 (.ext 1) (.t 17))),
    (.eff [] (some 6) (.alloc 80 #[(.int .i64 0), (str []), (.int .i64 0), (.int .i64 0), (.int .i64 0), (.int .i64 0)]) [] []),
    (.eff [] (some 7) (.alloc 27 #[(.int .i64 0), (.int .i64 0), (.int .i64 0)]) [] []),
    (.eff [] none (.store 6) [(.t 6), (.o1 (.ext 0) (.t 17))] []),
    (.eff [] none (.store 3) [(.t 7), (.o1 (.ext 1) (.t 17))] [])]) (.seq (.seq (.sts [(.chk [] (.c1 (.fld 0) (.t 7))),
    (.chk [] (.c1 .ld1 (.o1 (.fld 0) (.t 7)))),
    (.chk [] (.c2 (.bin .neq) (.o1 .ld1 (.o1 (.fld 0) (.t 7))) (.c (.int .i64 0)))),
    (.set 22 (.o2 (.bin .neq) (.o1 .ld1 (.o1 (.fld 0) (.t 7))) (.c (.int .i64 0))))]) (.cond 22 (.seq (.sts [(.chk [] (.c1 (.ldn 3) (.t 7))),
    (.set 23 (.o1 (.ldn 3) (.t 7))),
    (.eff [] none (.store 3) [(.t 4), (.t 23)] [])]) .ret) .skip)) (.seq (.seq (.sts [(.chk [] (.c2 (.eqn .func true) (.t 1) (.c .nilFunc))),
    (.chk [((.o2 (.eqn .func true) (.t 1) (.c .nilFunc)), true)] (.c1 (.ldn 6) (.t 6))),
    (.set 28 (.o1 (.ldn 6) (.t 6))),
    (.eff [((.o2 (.eqn .func true) (.t 1) (.c .nilFunc)), true)] (some 29) .callv [(.t 1), (.t 28)] []),
    (.chk [((.o2 (.eqn .func true) (.t 1) (.c .nilFunc)), true)] (.c1 .not (.t 29))),
    (.chk [] (.c3 .pick (.o2 (.eqn .func true) (.t 1) (.c .nilFunc)) (.o1 .not (.t 29)) (.c (.bool false)))),
    (.set 31 (.o3 .pick (.o2 (.eqn .func true) (.t 1) (.c .nilFunc)) (.o1 .not (.t 29)) (.c (.bool false))))]) (.cond 31 (.seq (.sts [(.chk [] (.cb 3 [])),
    (.eff [] none (.store 3) [(.t 4), (.c (.agg #[(.int .i64 0), (.int .i64 0), (.int .i64 0)]))] [])]) .ret) .skip)) (.seq (.sts [(.chk [] (.c1 (.fld 0) (.t 6))),
    (.chk [] (.c1 .ld1 (.o1 (.fld 0) (.t 6)))),
    (.chk [] (.c2 (.bin .eql) (.o1 .ld1 (.o1 (.fld 0) (.t 6))) (.c (.int .i64 0)))),
    (.set 35 (.o2 (.bin .eql) (.o1 .ld1 (.o1 (.fld 0) (.t 6))) (.c (.int .i64 0))))]) (.cond 35 (.seq (.sts [(.chk [] (.cb 3 [])),
    (.eff [] none (.store 3) [(.t 4), (.c (.agg #[(.int .i64 0), (.int .i64 0), (.int .i64 0)]))] [])]) .ret) .skip))))))
def lxEach_S : S :=
  (.seq (.sts [(.eff [] (some 4) (.alloc 27 #[(.int .i64 0), (.int .i64 0), (.int .i64 0)]) [] [])]) (.seq (.seq (.sts [(.chk [] (.c1 .lens (.t 0))),
    (.chk [] (.c2 (.bin .gtr) (.o1 .lens (.t 0)) (.c (.int .i64 65536)))),
    (.set 10 (.o2 (.bin .gtr) (.o1 .lens (.t 0)) (.c (.int .i64 65536))))]) (.cond 10 (.seq (.sts [(.chk [] (.cb 3 [(0, (1, (.c (.int .i64 1))))])),
    (.eff [] none (.store 3) [(.t 4), (.o2 (.put 0 1) (.c (.agg #[(.int .i64 0), (.int .i64 0), (.int .i64 0)])) (.c (.int .i64 1)))] [])]) .ret) .skip)) (.seq (.sts [(.chk [] (.cb 2 [(0, (1, (.t 0)))])),
    (.eff [] (some 14) (.box 105) [(.o2 (.put 0 1) (.c (.agg #[(str []), (.int .i64 0)])) (.t 0))] []),
    (.set 5 (.t 14))]) (.block 0 (.loop lxEach_L1)))))
def lxEach_E : Res := [((some (.c1 (.ldn 3) (.t 4))), (.o1 (.ldn 3) (.t 4)))]
theorem lxEach_C : Tryd.f44.body.bind (comp Tryd.prog lxEach_M Tryd.f44.ntmps) = some lxEach_S := by kernel_rfl
theorem lxEach_R : resE Tryd.prog lxEach_M Tryd.f44.results.toList = some lxEach_E := by kernel_rfl
theorem lxEach_H (G : Ctr) (hG : GOk Tryd.prog G) (a0 : Value) (a1 : Value) {h : H} {K : Value → H → Prop} {KP : List PanicEntry → H → Prop} (Hw : wpS G lxEach_S (retQ lxEach_E (callK K KP)) (envOf 0 [a0, a1] env0) h) : HCX Tryd.prog 44 [a0, a1] h K KP :=
  .inl ⟨by kernel_rfl, hc_of mixed hG Tryd.func44 lxEach_C lxEach_R (of_decide_eq_true (by kernel_rfl)) Hw⟩
def lxScanY_M : Nat → Bool := fun i => Nat.testBit 15 i
def lxScanY_S : S :=
  (.seq (.sts [(.eff [] (some 2) (.box 80) [(.t 0)] []),
    (.set 3 (.c (.bool false)))]) (.seq (.sts [(.chk [] (.c1 .ld1 (.t 1))),
    (.chk [] (.c1 (.ldn 6) (.t 2))),
    (.set 5 (.o1 (.ldn 6) (.t 2))),
    (.set 4 (.o1 .ld1 (.t 1))),
    (.eff [] (some 6) (.bsl 80 6 1 [(.int .i64 0), (str []), (.int .i64 0), (.int .i64 0), (.int .i64 0), (.int .i64 0)] [0]) [(.t 5)] []),
    (.eff [] (some 7) (.app 80 6 56 [(.int .i64 0), (str []), (.int .i64 0), (.int .i64 0), (.int .i64 0), (.int .i64 0)]) [(.t 4), (.t 6)] []),
    (.eff [] none (.store 1) [(.t 1), (.t 7)] [])]) (.seq (.sts [(.set 3 (.c (.bool true)))]) .ret)))
def lxScanY_E : Res := [(none, (.t 3))]
theorem lxScanY_C : Tryd.f45.body.bind (comp Tryd.prog lxScanY_M Tryd.f45.ntmps) = some lxScanY_S := by kernel_rfl
theorem lxScanY_R : resE Tryd.prog lxScanY_M Tryd.f45.results.toList = some lxScanY_E := by kernel_rfl
theorem lxScanY_H (G : Ctr) (hG : GOk Tryd.prog G) (a0 : Value) (a1 : Value) {h : H} {K : Value → H → Prop} {KP : List PanicEntry → H → Prop} (Hw : wpS G lxScanY_S (retQ lxScanY_E (callK K KP)) (envOf 0 [a0, a1] env0) h) : HCX Tryd.prog 45 [a0, a1] h K KP :=
  .inl ⟨by kernel_rfl, hc_of mixed hG Tryd.func45 lxScanY_C lxScanY_R (of_decide_eq_true (by kernel_rfl)) Hw⟩
def lxScan_M : Nat → Bool := fun i => Nat.testBit 61 i
def lxScan_S : S :=
  (.seq (.sts [(.set 2 (.c (.slice none 0 0))),
    (.eff [] (some 3) (.alloc 27 #[(.int .i64 0), (.int .i64 0), (.int .i64 0)]) [] [])]) (.seq (.sts [(.eff [] (some 4) (.alloc 92 #[(.slice none 0 0)]) [] [])]) (.seq (.sts [(.eff [] (some 7) (.mkf (.func 45) 0) [(.t 4)] []),
    (.eff [] (some 8) (.call 44) [(.t 0), (.t 7)] []),
    (.eff [] (some 5) (.alloc 27 #[(.int .i64 0), (.int .i64 0), (.int .i64 0)]) [] []),
    (.eff [] none (.store 3) [(.t 5), (.t 8)] [])]) (.seq (.sts [(.chk [] (.c1 .ld1 (.t 4))),
    (.chk [] (.c1 (.ldn 3) (.t 5))),
    (.set 2 (.o1 .ld1 (.t 4))),
    (.set 10 (.o1 (.ldn 3) (.t 5))),
    (.eff [] none (.store 3) [(.t 3), (.t 10)] [])]) .ret))))
def lxScan_E : Res := [(none, (.t 2)), ((some (.c1 (.ldn 3) (.t 3))), (.o1 (.ldn 3) (.t 3)))]
theorem lxScan_C : Tryd.f38.body.bind (comp Tryd.prog lxScan_M Tryd.f38.ntmps) = some lxScan_S := by kernel_rfl
theorem lxScan_R : resE Tryd.prog lxScan_M Tryd.f38.results.toList = some lxScan_E := by kernel_rfl
theorem lxScan_H (G : Ctr) (hG : GOk Tryd.prog G) (a0 : Value) {h : H} {K : Value → H → Prop} {KP : List PanicEntry → H → Prop} (Hw : wpS G lxScan_S (retQ lxScan_E (callK K KP)) (envOf 0 [a0] env0) h) : HCX Tryd.prog 38 [a0] h K KP :=
  .inl ⟨by kernel_rfl, hc_of mixed hG Tryd.func38 lxScan_C lxScan_R (of_decide_eq_true (by kernel_rfl)) Hw⟩
end Go.Proofs.YtlenjlidahnklaaDoor
