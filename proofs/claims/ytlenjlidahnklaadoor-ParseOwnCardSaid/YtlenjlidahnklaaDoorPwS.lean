/- The small statements of functions of the program, as the closed computation gives them (written by a program of ours; checked by the kernel below). -/
import Derived.Test.YtlenjlidahnklaaDoorEvB
import Derived.Test.YtlenjlidahnklaaDoorProg
import Derived.KernelRfl
import Derived.Test.YtlenjlidahnklaaDoorPlS
namespace Go.Proofs.YtlenjlidahnklaaDoor
open Go Go.Ev
def owAddArgs_M : Nat → Bool := fun i => Nat.testBit 67 i
def owAddArgs_S : S :=
  (.seq (.sts [(.chk [] (.c1 .len (.t 1))),
    (.chk [] (.c2 (.bin .gtr) (.o1 .len (.t 1)) (.c (.int .i64 0)))),
    (.set 6 (.o2 (.bin .gtr) (.o1 .len (.t 1)) (.c (.int .i64 0))))]) (.cond 6 (.sts [(.chk [] (.c1 .nilck (.t 0))),
    (.chk [] (.c1 (.fld 0) (.t 0))),
    (.chk [] (.c1 .ld1 (.o1 (.fld 0) (.t 0)))),
    (.set 11 (.o1 .ld1 (.o1 (.fld 0) (.t 0)))),
    (.eff [] (some 13) (.bsl 58 1 1 [(.slice none 0 0)] [0]) [(.t 1)] []),
    (.eff [] (some 14) (.app 58 1 24 [(.slice none 0 0)]) [(.t 11), (.t 13)] []),
    (.chk [] (.c1 .nilck (.t 0))),
    (.chk [] (.c1 (.fld 0) (.t 0))),
    (.eff [] none (.store 1) [(.o1 (.fld 0) (.t 0)), (.t 14)] [])]) .skip))
def owAddArgs_E : Res := []
theorem owAddArgs_C : Tryd.f21.body.bind (comp Tryd.prog owAddArgs_M Tryd.f21.ntmps) = some owAddArgs_S := by kernel_rfl
theorem owAddArgs_R : resE Tryd.prog owAddArgs_M Tryd.f21.results.toList = some owAddArgs_E := by kernel_rfl
theorem owAddArgs_H (G : Ctr) (hG : GOk Tryd.prog G) (a0 : Value) (a1 : Value) {h : H} {K : Value → H → Prop} {KP : List PanicEntry → H → Prop} (Hw : wpS G owAddArgs_S (retQ owAddArgs_E (callK K KP)) (envOf 0 [a0, a1] env0) h) : HCX Tryd.prog 21 [a0, a1] h K KP :=
  .inl ⟨by kernel_rfl, hc_of mixed hG Tryd.func21 owAddArgs_C owAddArgs_R (of_decide_eq_true (by kernel_rfl)) Hw⟩
def owAddBody_M : Nat → Bool := fun i => Nat.testBit 7971 i
def owAddBody_L1 : S :=
  (.seq (.sts [(.chk [] (.c2 (.bin .lss) (.t 11) (.t 10))),
    (.set 12 (.o2 (.bin .lss) (.t 11) (.t 10)))]) (.seq (.cond 12 .skip (.exit 0)) (.seq (.block 1 (.seq (.sts [(.chk [] (.c2 (.idxA 14) (.t 9) (.t 11))),
    (.chk [] (.c1 (.ldn 14) (.o2 (.idxA 14) (.t 9) (.t 11)))),
    (.set 14 (.o1 (.ldn 14) (.o2 (.idxA 14) (.t 9) (.t 11)))),
    (.eff [] (some 5) (.alloc 74 #[(.int .i64 0), (str []), (.slice none 0 0), (.int .i64 0), (.int .i64 0), (.int .i64 0), (.int .i64 0), (str []), (.int .i64 0), (.int .i64 0), (.int .i64 0), (str []), (.int .i64 0), (.int .i64 0)]) [] []),
    (.eff [] none (.store 14) [(.t 5), (.t 14)] [])]) (.sts [(.chk [] (.c1 (.fld 1) (.t 5))),
    (.chk [] (.c1 (.fld 1) (.o1 (.fld 1) (.t 5)))),
    (.chk [] (.c1 .ld1 (.o1 (.fld 1) (.o1 (.fld 1) (.t 5))))),
    (.set 18 (.o1 .ld1 (.o1 (.fld 1) (.o1 (.fld 1) (.t 5))))),
    (.eff [] (some 19) (.call 21) [(.t 0), (.t 18)] [])]))) (.sts [(.chk [] (.c2 (.bin .add) (.t 11) (.c (.int .i64 1)))),
    (.set 20 (.o2 (.bin .add) (.t 11) (.c (.int .i64 1)))),
    (.set 11 (.t 20))]))))
def owAddBody_S : S :=
  (.seq (.seq (.sts [(.chk [] (.c1 .len (.t 1))),
    (.chk [] (.c2 (.bin .eql) (.o1 .len (.t 1)) (.c (.int .i64 0)))),
    (.set 8 (.o2 (.bin .eql) (.o1 .len (.t 1)) (.c (.int .i64 0))))]) (.cond 8 .ret .skip)) (.seq (.seq (.sts [(.set 9 (.t 1)),
    (.chk [] (.c1 .len (.t 9))),
    (.set 10 (.o1 .len (.t 9))),
    (.set 11 (.c (.int .i64 0)))]) (.block 0 (.loop owAddBody_L1))) (.sts [(.chk [] (.c1 .nilck (.t 0))),
    (.chk [] (.c1 (.fld 2) (.t 0))),
    (.chk [] (.c1 .ld1 (.o1 (.fld 2) (.t 0)))),
    (.set 25 (.o1 .ld1 (.o1 (.fld 2) (.t 0)))),
    (.eff [] (some 27) (.bsl 28 1 1 [(.slice none 0 0)] [0]) [(.t 1)] []),
    (.eff [] (some 28) (.app 28 1 24 [(.slice none 0 0)]) [(.t 25), (.t 27)] []),
    (.chk [] (.c1 .nilck (.t 0))),
    (.chk [] (.c1 (.fld 2) (.t 0))),
    (.eff [] none (.store 1) [(.o1 (.fld 2) (.t 0)), (.t 28)] [])])))
def owAddBody_E : Res := []
theorem owAddBody_C : Tryd.f22.body.bind (comp Tryd.prog owAddBody_M Tryd.f22.ntmps) = some owAddBody_S := by kernel_rfl
theorem owAddBody_R : resE Tryd.prog owAddBody_M Tryd.f22.results.toList = some owAddBody_E := by kernel_rfl
theorem owAddBody_H (G : Ctr) (hG : GOk Tryd.prog G) (a0 : Value) (a1 : Value) {h : H} {K : Value → H → Prop} {KP : List PanicEntry → H → Prop} (Hw : wpS G owAddBody_S (retQ owAddBody_E (callK K KP)) (envOf 0 [a0, a1] env0) h) : HCX Tryd.prog 22 [a0, a1] h K KP :=
  .inl ⟨by kernel_rfl, hc_of mixed hG Tryd.func22 owAddBody_C owAddBody_R (of_decide_eq_true (by kernel_rfl)) Hw⟩
def owAdd_M : Nat → Bool := fun i => Nat.testBit 32212270251 i
def owAdd_L1 : S :=
  (.seq (.sts [(.chk [] (.c2 (.bin .lss) (.t 12) (.t 11))),
    (.set 13 (.o2 (.bin .lss) (.t 12) (.t 11)))]) (.seq (.cond 13 .skip (.exit 0)) (.seq (.block 1 (.seq (.sts [(.chk [] (.c2 (.idxA 4) (.t 10) (.t 12))),
    (.chk [] (.c1 (.ldn 4) (.o2 (.idxA 4) (.t 10) (.t 12)))),
    (.set 15 (.o1 (.ldn 4) (.o2 (.idxA 4) (.t 10) (.t 12)))),
    (.eff [] (some 5) (.alloc 62 #[(str []), (.slice none 0 0), (.int .i64 0), (.slice none 0 0)]) [] []),
    (.eff [] none (.store 4) [(.t 5), (.t 15)] [])]) (.seq (.sts [(.chk [] (.c1 (.fld 0) (.t 5))),
    (.chk [] (.c1 (.fld 1) (.o1 (.fld 0) (.t 5)))),
    (.chk [] (.c1 .ld1 (.o1 (.fld 1) (.o1 (.fld 0) (.t 5))))),
    (.set 19 (.o1 .ld1 (.o1 (.fld 1) (.o1 (.fld 0) (.t 5))))),
    (.eff [] (some 20) (.call 21) [(.t 0), (.t 19)] [])]) (.sts [(.chk [] (.c1 (.fld 3) (.t 5))),
    (.chk [] (.c1 .ld1 (.o1 (.fld 3) (.t 5)))),
    (.set 23 (.o1 .ld1 (.o1 (.fld 3) (.t 5)))),
    (.eff [] (some 24) (.call 22) [(.t 0), (.t 23)] [])])))) (.sts [(.chk [] (.c2 (.bin .add) (.t 12) (.c (.int .i64 1)))),
    (.set 25 (.o2 (.bin .add) (.t 12) (.c (.int .i64 1)))),
    (.set 12 (.t 25))]))))
def owAdd_L2 : S :=
  (.seq (.sts [(.chk [] (.c2 (.bin .lss) (.t 33) (.t 32))),
    (.set 34 (.o2 (.bin .lss) (.t 33) (.t 32)))]) (.seq (.cond 34 .skip (.exit 2)) (.seq (.block 3 (.seq (.sts [(.chk [] (.c2 (.idxA 3) (.t 31) (.t 33))),
    (.chk [] (.c1 (.ldn 3) (.o2 (.idxA 3) (.t 31) (.t 33)))),
    (.set 36 (.o1 (.ldn 3) (.o2 (.idxA 3) (.t 31) (.t 33)))),
    (.eff [] (some 7) (.alloc 60 #[(str []), (.slice none 0 0), (.int .i64 0)]) [] []),
    (.eff [] none (.store 3) [(.t 7), (.t 36)] [])]) (.sts [(.chk [] (.c1 (.fld 1) (.t 7))),
    (.chk [] (.c1 .ld1 (.o1 (.fld 1) (.t 7)))),
    (.set 39 (.o1 .ld1 (.o1 (.fld 1) (.t 7)))),
    (.eff [] (some 40) (.call 21) [(.t 0), (.t 39)] [])]))) (.sts [(.chk [] (.c2 (.bin .add) (.t 33) (.c (.int .i64 1)))),
    (.set 41 (.o2 (.bin .add) (.t 33) (.c (.int .i64 1)))),
    (.set 33 (.t 41))]))))
def owAdd_S : S :=
  (.seq (.sts [(.eff [] (some 3) (.box 34) [(.t 1)] [])]) (.seq (.seq (.sts [(.chk [] (.c1 (.fld 0) (.t 3))),
    (.chk [] (.c1 (.fld 0) (.o1 (.fld 0) (.t 3)))),
    (.chk [] (.c1 .ld1 (.o1 (.fld 0) (.o1 (.fld 0) (.t 3))))),
    (.set 10 (.o1 .ld1 (.o1 (.fld 0) (.o1 (.fld 0) (.t 3))))),
    (.chk [] (.c1 .len (.t 10))),
    (.set 11 (.o1 .len (.t 10))),
    (.set 12 (.c (.int .i64 0)))]) (.block 0 (.loop owAdd_L1))) (.seq (.sts [(.chk [] (.c1 (.fld 4) (.t 3))),
    (.chk [] (.c1 .ld1 (.o1 (.fld 4) (.t 3)))),
    (.set 28 (.o1 .ld1 (.o1 (.fld 4) (.t 3)))),
    (.eff [] (some 29) (.call 22) [(.t 0), (.t 28)] [])]) (.seq (.seq (.sts [(.chk [] (.c1 (.fld 5) (.t 3))),
    (.chk [] (.c1 .ld1 (.o1 (.fld 5) (.t 3)))),
    (.set 31 (.o1 .ld1 (.o1 (.fld 5) (.t 3)))),
    (.chk [] (.c1 .len (.t 31))),
    (.set 32 (.o1 .len (.t 31))),
    (.set 33 (.c (.int .i64 0)))]) (.block 2 (.loop owAdd_L2))) (.seq (.sts [(.chk [] (.c1 .nilck (.t 0))),
    (.chk [] (.c1 (.fld 4) (.t 0))),
    (.chk [] (.c1 .ld1 (.o1 (.fld 4) (.t 0)))),
    (.chk [] (.c1 (.fld 0) (.t 3))),
    (.chk [] (.c1 (.fld 0) (.o1 (.fld 0) (.t 3)))),
    (.chk [] (.c1 .ld1 (.o1 (.fld 0) (.o1 (.fld 0) (.t 3))))),
    (.set 49 (.o1 .ld1 (.o1 (.fld 0) (.o1 (.fld 0) (.t 3))))),
    (.set 46 (.o1 .ld1 (.o1 (.fld 4) (.t 0)))),
    (.eff [] (some 50) (.bsl 22 1 1 [(.slice none 0 0)] [0]) [(.t 49)] [([], ((.o1 (.fld 4) (.t 0)), none))]),
    (.eff [] (some 51) (.app 22 1 24 [(.slice none 0 0)]) [(.t 46), (.t 50)] []),
    (.chk [] (.c1 .nilck (.t 0))),
    (.chk [] (.c1 (.fld 4) (.t 0))),
    (.eff [] none (.store 1) [(.o1 (.fld 4) (.t 0)), (.t 51)] [])]) (.seq (.sts [(.chk [] (.c1 .nilck (.t 0))),
    (.chk [] (.c1 (.fld 6) (.t 0))),
    (.chk [] (.c1 .ld1 (.o1 (.fld 6) (.t 0)))),
    (.chk [] (.c1 (.fld 5) (.t 3))),
    (.chk [] (.c1 .ld1 (.o1 (.fld 5) (.t 3)))),
    (.set 60 (.o1 .ld1 (.o1 (.fld 5) (.t 3)))),
    (.set 58 (.o1 .ld1 (.o1 (.fld 6) (.t 0)))),
    (.eff [] (some 61) (.bsl 29 1 1 [(.slice none 0 0)] [0]) [(.t 60)] [([], ((.o1 (.fld 6) (.t 0)), none))]),
    (.eff [] (some 62) (.app 29 1 24 [(.slice none 0 0)]) [(.t 58), (.t 61)] []),
    (.chk [] (.c1 .nilck (.t 0))),
    (.chk [] (.c1 (.fld 6) (.t 0))),
    (.eff [] none (.store 1) [(.o1 (.fld 6) (.t 0)), (.t 62)] [])]) (.sts [(.chk [] (.c1 .nilck (.t 0))),
    (.chk [] (.c1 (.fld 8) (.t 0))),
    (.chk [] (.c1 .ld1 (.o1 (.fld 8) (.t 0)))),
    (.chk [] (.c1 (.fld 6) (.t 3))),
    (.chk [] (.c1 (.fld 1) (.o1 (.fld 6) (.t 3)))),
    (.chk [] (.c1 .ld1 (.o1 (.fld 1) (.o1 (.fld 6) (.t 3))))),
    (.set 72 (.o1 .ld1 (.o1 (.fld 1) (.o1 (.fld 6) (.t 3))))),
    (.set 69 (.o1 .ld1 (.o1 (.fld 8) (.t 0)))),
    (.eff [] (some 73) (.bsl 30 1 1 [(.slice none 0 0)] [0]) [(.t 72)] [([], ((.o1 (.fld 8) (.t 0)), none))]),
    (.eff [] (some 74) (.app 30 1 24 [(.slice none 0 0)]) [(.t 69), (.t 73)] []),
    (.chk [] (.c1 .nilck (.t 0))),
    (.chk [] (.c1 (.fld 8) (.t 0))),
    (.eff [] none (.store 1) [(.o1 (.fld 8) (.t 0)), (.t 74)] [])])))))))
def owAdd_E : Res := []
theorem owAdd_C : Tryd.f7.body.bind (comp Tryd.prog owAdd_M Tryd.f7.ntmps) = some owAdd_S := by kernel_rfl
theorem owAdd_R : resE Tryd.prog owAdd_M Tryd.f7.results.toList = some owAdd_E := by kernel_rfl
theorem owAdd_H (G : Ctr) (hG : GOk Tryd.prog G) (a0 : Value) (a1 : Value) {h : H} {K : Value → H → Prop} {KP : List PanicEntry → H → Prop} (Hw : wpS G owAdd_S (retQ owAdd_E (callK K KP)) (envOf 0 [a0, a1] env0) h) : HCX Tryd.prog 7 [a0, a1] h K KP :=
  .inl ⟨by kernel_rfl, hc_of mixed hG Tryd.func7 owAdd_C owAdd_R (of_decide_eq_true (by kernel_rfl)) Hw⟩
def owGrow_M : Nat → Bool := fun i => Nat.testBit 5104235522828835990791808887390806183933 i
def owGrow_L1 : S :=
  (.seq (.sts [(.chk [] (.c2 (.bin .lss) (.t 17) (.t 16))),
    (.set 18 (.o2 (.bin .lss) (.t 17) (.t 16)))]) (.seq (.cond 18 .skip (.exit 0)) (.seq (.block 1 (.seq (.sts [(.chk [] (.c2 (.idxA 1) (.t 15) (.t 17))),
    (.chk [] (.c1 .ld1 (.o2 (.idxA 1) (.t 15) (.t 17)))),
    (.set 2 (.t 17)),
    (.set 3 (.o1 .ld1 (.o2 (.idxA 1) (.t 15) (.t 17))))]) (.sts [(.chk [] (.c1 .nilck (.t 0))),
    (.chk [] (.c1 (.fld 1) (.t 0))),
    (.chk [] (.c1 .ld1 (.o1 (.fld 1) (.t 0)))),
    (.chk [] (.c1 .len (.t 3))),
    (.set 26 (.o1 .ld1 (.o1 (.fld 1) (.t 0)))),
    (.eff [] (some 31) (.call 23) [(.t 2), (.o1 .len (.t 3))] [([], ((.o1 (.fld 1) (.t 0)), none))]),
    (.chk [] (.cb 4 [(0, (1, (.c (.int .i64 9)))), (3, (1, (.t 31)))])),
    (.eff [] (some 33) (.bsl 72 4 1 [(.int .i64 0), (.int .i64 0), (str []), (.int .i64 0)] [0]) [(.o2 (.put 3 1) (.o2 (.put 0 1) (.c (.agg #[(.int .i64 0), (.int .i64 0), (str []), (.int .i64 0)])) (.c (.int .i64 9))) (.t 31))] [([], ((.o1 (.fld 1) (.t 0)), none))]),
    (.eff [] (some 34) (.app 72 4 40 [(.int .i64 0), (.int .i64 0), (str []), (.int .i64 0)]) [(.t 3), (.t 33)] [([], ((.o1 (.fld 1) (.t 0)), none))]),
    (.eff [] (some 35) (.bsl 58 1 1 [(.slice none 0 0)] [0]) [(.t 34)] [([], ((.o1 (.fld 1) (.t 0)), none))]),
    (.eff [] (some 36) (.app 58 1 24 [(.slice none 0 0)]) [(.t 26), (.t 35)] []),
    (.chk [] (.c1 .nilck (.t 0))),
    (.chk [] (.c1 (.fld 1) (.t 0))),
    (.eff [] none (.store 1) [(.o1 (.fld 1) (.t 0)), (.t 36)] [])]))) (.sts [(.chk [] (.c2 (.bin .add) (.t 17) (.c (.int .i64 1)))),
    (.set 39 (.o2 (.bin .add) (.t 17) (.c (.int .i64 1)))),
    (.set 17 (.t 39))]))))
def owGrow_L2 : S :=
  (.seq (.sts [(.chk [] (.c2 (.bin .lss) (.t 45) (.t 44))),
    (.set 46 (.o2 (.bin .lss) (.t 45) (.t 44)))]) (.seq (.cond 46 .skip (.exit 2)) (.seq (.block 3 (.seq (.sts [(.chk [] (.c2 (.idxA 1) (.t 43) (.t 45))),
    (.chk [] (.c1 .ld1 (.o2 (.idxA 1) (.t 43) (.t 45)))),
    (.set 4 (.t 45)),
    (.set 5 (.o1 .ld1 (.o2 (.idxA 1) (.t 43) (.t 45))))]) (.sts [(.chk [] (.c1 .nilck (.t 0))),
    (.chk [] (.c1 (.fld 3) (.t 0))),
    (.chk [] (.c1 .ld1 (.o1 (.fld 3) (.t 0)))),
    (.chk [] (.c1 .len (.t 5))),
    (.set 54 (.o1 .ld1 (.o1 (.fld 3) (.t 0)))),
    (.eff [] (some 59) (.call 23) [(.t 4), (.o1 .len (.t 5))] [([], ((.o1 (.fld 3) (.t 0)), none))]),
    (.chk [] (.cb 14 [(13, (1, (.t 59)))])),
    (.eff [] (some 61) (.bsl 74 14 1 [(.int .i64 0), (str []), (.slice none 0 0), (.int .i64 0), (.int .i64 0), (.int .i64 0), (.int .i64 0), (str []), (.int .i64 0), (.int .i64 0), (.int .i64 0), (str []), (.int .i64 0), (.int .i64 0)] [0]) [(.o2 (.put 13 1) (.c (.agg #[(.int .i64 0), (str []), (.slice none 0 0), (.int .i64 0), (.int .i64 0), (.int .i64 0), (.int .i64 0), (str []), (.int .i64 0), (.int .i64 0), (.int .i64 0), (str []), (.int .i64 0), (.int .i64 0)])) (.t 59))] [([], ((.o1 (.fld 3) (.t 0)), none))]),
    (.eff [] (some 62) (.app 74 14 152 [(.int .i64 0), (str []), (.slice none 0 0), (.int .i64 0), (.int .i64 0), (.int .i64 0), (.int .i64 0), (str []), (.int .i64 0), (.int .i64 0), (.int .i64 0), (str []), (.int .i64 0), (.int .i64 0)]) [(.t 5), (.t 61)] [([], ((.o1 (.fld 3) (.t 0)), none))]),
    (.eff [] (some 63) (.bsl 28 1 1 [(.slice none 0 0)] [0]) [(.t 62)] [([], ((.o1 (.fld 3) (.t 0)), none))]),
    (.eff [] (some 64) (.app 28 1 24 [(.slice none 0 0)]) [(.t 54), (.t 63)] []),
    (.chk [] (.c1 .nilck (.t 0))),
    (.chk [] (.c1 (.fld 3) (.t 0))),
    (.eff [] none (.store 1) [(.o1 (.fld 3) (.t 0)), (.t 64)] [])]))) (.sts [(.chk [] (.c2 (.bin .add) (.t 45) (.c (.int .i64 1)))),
    (.set 67 (.o2 (.bin .add) (.t 45) (.c (.int .i64 1)))),
    (.set 45 (.t 67))]))))
def owGrow_L3 : S :=
  (.seq (.sts [(.chk [] (.c2 (.bin .lss) (.t 73) (.t 72))),
    (.set 74 (.o2 (.bin .lss) (.t 73) (.t 72)))]) (.seq (.cond 74 .skip (.exit 4)) (.seq (.block 5 (.seq (.sts [(.chk [] (.c2 (.idxA 1) (.t 71) (.t 73))),
    (.chk [] (.c1 .ld1 (.o2 (.idxA 1) (.t 71) (.t 73)))),
    (.set 6 (.t 73)),
    (.set 7 (.o1 .ld1 (.o2 (.idxA 1) (.t 71) (.t 73))))]) (.sts [(.chk [] (.c1 .nilck (.t 0))),
    (.chk [] (.c1 (.fld 5) (.t 0))),
    (.chk [] (.c1 .ld1 (.o1 (.fld 5) (.t 0)))),
    (.chk [] (.c1 .len (.t 7))),
    (.set 82 (.o1 .ld1 (.o1 (.fld 5) (.t 0)))),
    (.eff [] (some 87) (.call 23) [(.t 6), (.o1 .len (.t 7))] [([], ((.o1 (.fld 5) (.t 0)), none))]),
    (.chk [] (.cb 3 [(2, (1, (.t 87)))])),
    (.chk [] (.cb 4 [(0, (3, (.o2 (.put 2 1) (.c (.agg #[(str []), (.slice none 0 0), (.int .i64 0)])) (.t 87))))])),
    (.eff [] (some 90) (.bsl 62 4 1 [(str []), (.slice none 0 0), (.int .i64 0), (.slice none 0 0)] [0]) [(.o2 (.put 0 3) (.c (.agg #[(str []), (.slice none 0 0), (.int .i64 0), (.slice none 0 0)])) (.o2 (.put 2 1) (.c (.agg #[(str []), (.slice none 0 0), (.int .i64 0)])) (.t 87)))] [([], ((.o1 (.fld 5) (.t 0)), none))]),
    (.eff [] (some 91) (.app 62 4 72 [(str []), (.slice none 0 0), (.int .i64 0), (.slice none 0 0)]) [(.t 7), (.t 90)] [([], ((.o1 (.fld 5) (.t 0)), none))]),
    (.eff [] (some 92) (.bsl 22 1 1 [(.slice none 0 0)] [0]) [(.t 91)] [([], ((.o1 (.fld 5) (.t 0)), none))]),
    (.eff [] (some 93) (.app 22 1 24 [(.slice none 0 0)]) [(.t 82), (.t 92)] []),
    (.chk [] (.c1 .nilck (.t 0))),
    (.chk [] (.c1 (.fld 5) (.t 0))),
    (.eff [] none (.store 1) [(.o1 (.fld 5) (.t 0)), (.t 93)] [])]))) (.sts [(.chk [] (.c2 (.bin .add) (.t 73) (.c (.int .i64 1)))),
    (.set 96 (.o2 (.bin .add) (.t 73) (.c (.int .i64 1)))),
    (.set 73 (.t 96))]))))
def owGrow_L4 : S :=
  (.seq (.sts [(.chk [] (.c2 (.bin .lss) (.t 102) (.t 101))),
    (.set 103 (.o2 (.bin .lss) (.t 102) (.t 101)))]) (.seq (.cond 103 .skip (.exit 6)) (.seq (.block 7 (.seq (.sts [(.chk [] (.c2 (.idxA 1) (.t 100) (.t 102))),
    (.chk [] (.c1 .ld1 (.o2 (.idxA 1) (.t 100) (.t 102)))),
    (.set 8 (.t 102)),
    (.set 9 (.o1 .ld1 (.o2 (.idxA 1) (.t 100) (.t 102))))]) (.sts [(.chk [] (.c1 .nilck (.t 0))),
    (.chk [] (.c1 (.fld 7) (.t 0))),
    (.chk [] (.c1 .ld1 (.o1 (.fld 7) (.t 0)))),
    (.chk [] (.c1 .len (.t 9))),
    (.set 111 (.o1 .ld1 (.o1 (.fld 7) (.t 0)))),
    (.eff [] (some 116) (.call 23) [(.t 8), (.o1 .len (.t 9))] [([], ((.o1 (.fld 7) (.t 0)), none))]),
    (.chk [] (.cb 3 [(2, (1, (.t 116)))])),
    (.eff [] (some 118) (.bsl 60 3 1 [(str []), (.slice none 0 0), (.int .i64 0)] [0]) [(.o2 (.put 2 1) (.c (.agg #[(str []), (.slice none 0 0), (.int .i64 0)])) (.t 116))] [([], ((.o1 (.fld 7) (.t 0)), none))]),
    (.eff [] (some 119) (.app 60 3 48 [(str []), (.slice none 0 0), (.int .i64 0)]) [(.t 9), (.t 118)] [([], ((.o1 (.fld 7) (.t 0)), none))]),
    (.eff [] (some 120) (.bsl 29 1 1 [(.slice none 0 0)] [0]) [(.t 119)] [([], ((.o1 (.fld 7) (.t 0)), none))]),
    (.eff [] (some 121) (.app 29 1 24 [(.slice none 0 0)]) [(.t 111), (.t 120)] []),
    (.chk [] (.c1 .nilck (.t 0))),
    (.chk [] (.c1 (.fld 7) (.t 0))),
    (.eff [] none (.store 1) [(.o1 (.fld 7) (.t 0)), (.t 121)] [])]))) (.sts [(.chk [] (.c2 (.bin .add) (.t 102) (.c (.int .i64 1)))),
    (.set 124 (.o2 (.bin .add) (.t 102) (.c (.int .i64 1)))),
    (.set 102 (.t 124))]))))
def owGrow_L5 : S :=
  (.seq (.sts [(.chk [] (.c2 (.bin .lss) (.t 130) (.t 129))),
    (.set 131 (.o2 (.bin .lss) (.t 130) (.t 129)))]) (.seq (.cond 131 .skip (.exit 8)) (.seq (.block 9 (.seq (.sts [(.chk [] (.c2 (.idxA 1) (.t 128) (.t 130))),
    (.chk [] (.c1 .ld1 (.o2 (.idxA 1) (.t 128) (.t 130)))),
    (.set 10 (.t 130)),
    (.set 11 (.o1 .ld1 (.o2 (.idxA 1) (.t 128) (.t 130))))]) (.sts [(.chk [] (.c1 .nilck (.t 0))),
    (.chk [] (.c1 (.fld 9) (.t 0))),
    (.chk [] (.c1 .ld1 (.o1 (.fld 9) (.t 0)))),
    (.chk [] (.c1 .len (.t 11))),
    (.set 139 (.o1 .ld1 (.o1 (.fld 9) (.t 0)))),
    (.eff [] (some 144) (.call 23) [(.t 10), (.o1 .len (.t 11))] [([], ((.o1 (.fld 9) (.t 0)), none))]),
    (.chk [] (.cb 3 [(0, (1, (.c (.int .i64 9)))), (1, (1, (.t 144)))])),
    (.eff [] (some 146) (.bsl 76 3 1 [(.int .i64 0), (.int .i64 0), (str [])] [0]) [(.o2 (.put 1 1) (.o2 (.put 0 1) (.c (.agg #[(.int .i64 0), (.int .i64 0), (str [])])) (.c (.int .i64 9))) (.t 144))] [([], ((.o1 (.fld 9) (.t 0)), none))]),
    (.eff [] (some 147) (.app 76 3 32 [(.int .i64 0), (.int .i64 0), (str [])]) [(.t 11), (.t 146)] [([], ((.o1 (.fld 9) (.t 0)), none))]),
    (.eff [] (some 148) (.bsl 30 1 1 [(.slice none 0 0)] [0]) [(.t 147)] [([], ((.o1 (.fld 9) (.t 0)), none))]),
    (.eff [] (some 149) (.app 30 1 24 [(.slice none 0 0)]) [(.t 139), (.t 148)] []),
    (.chk [] (.c1 .nilck (.t 0))),
    (.chk [] (.c1 (.fld 9) (.t 0))),
    (.eff [] none (.store 1) [(.o1 (.fld 9) (.t 0)), (.t 149)] [])]))) (.sts [(.chk [] (.c2 (.bin .add) (.t 130) (.c (.int .i64 1)))),
    (.set 152 (.o2 (.bin .add) (.t 130) (.c (.int .i64 1)))),
    (.set 130 (.t 152))]))))
def owGrow_S : S :=
  (.seq (.seq (.sts [(.chk [] (.c1 .nilck (.t 0))),
    (.chk [] (.c1 (.fld 0) (.t 0))),
    (.chk [] (.c1 .ld1 (.o1 (.fld 0) (.t 0)))),
    (.set 15 (.o1 .ld1 (.o1 (.fld 0) (.t 0)))),
    (.chk [] (.c1 .len (.t 15))),
    (.set 16 (.o1 .len (.t 15))),
    (.set 17 (.c (.int .i64 0)))]) (.block 0 (.loop owGrow_L1))) (.seq (.seq (.sts [(.chk [] (.c1 .nilck (.t 0))),
    (.chk [] (.c1 (.fld 2) (.t 0))),
    (.chk [] (.c1 .ld1 (.o1 (.fld 2) (.t 0)))),
    (.set 43 (.o1 .ld1 (.o1 (.fld 2) (.t 0)))),
    (.chk [] (.c1 .len (.t 43))),
    (.set 44 (.o1 .len (.t 43))),
    (.set 45 (.c (.int .i64 0)))]) (.block 2 (.loop owGrow_L2))) (.seq (.seq (.sts [(.chk [] (.c1 .nilck (.t 0))),
    (.chk [] (.c1 (.fld 4) (.t 0))),
    (.chk [] (.c1 .ld1 (.o1 (.fld 4) (.t 0)))),
    (.set 71 (.o1 .ld1 (.o1 (.fld 4) (.t 0)))),
    (.chk [] (.c1 .len (.t 71))),
    (.set 72 (.o1 .len (.t 71))),
    (.set 73 (.c (.int .i64 0)))]) (.block 4 (.loop owGrow_L3))) (.seq (.seq (.sts [(.chk [] (.c1 .nilck (.t 0))),
    (.chk [] (.c1 (.fld 6) (.t 0))),
    (.chk [] (.c1 .ld1 (.o1 (.fld 6) (.t 0)))),
    (.set 100 (.o1 .ld1 (.o1 (.fld 6) (.t 0)))),
    (.chk [] (.c1 .len (.t 100))),
    (.set 101 (.o1 .len (.t 100))),
    (.set 102 (.c (.int .i64 0)))]) (.block 6 (.loop owGrow_L4))) (.seq (.sts [(.chk [] (.c1 .nilck (.t 0))),
    (.chk [] (.c1 (.fld 8) (.t 0))),
    (.chk [] (.c1 .ld1 (.o1 (.fld 8) (.t 0)))),
    (.set 128 (.o1 .ld1 (.o1 (.fld 8) (.t 0)))),
    (.chk [] (.c1 .len (.t 128))),
    (.set 129 (.o1 .len (.t 128))),
    (.set 130 (.c (.int .i64 0)))]) (.block 8 (.loop owGrow_L5)))))))
def owGrow_E : Res := []
theorem owGrow_C : Tryd.f24.body.bind (comp Tryd.prog owGrow_M Tryd.f24.ntmps) = some owGrow_S := by kernel_rfl
theorem owGrow_R : resE Tryd.prog owGrow_M Tryd.f24.results.toList = some owGrow_E := by kernel_rfl
theorem owGrow_H (G : Ctr) (hG : GOk Tryd.prog G) (a0 : Value) {h : H} {K : Value → H → Prop} {KP : List PanicEntry → H → Prop} (Hw : wpS G owGrow_S (retQ owGrow_E (callK K KP)) (envOf 0 [a0] env0) h) : HCX Tryd.prog 24 [a0] h K KP :=
  .inl ⟨by kernel_rfl, hc_of mixed hG Tryd.func24 owGrow_C owGrow_R (of_decide_eq_true (by kernel_rfl)) Hw⟩
def owWrite_M : Nat → Bool := fun i => Nat.testBit 300239391443579614033901121855196102653 i
def owWrite_L2 : S :=
  (.seq (.sts [(.chk [] (.c2 (.bin .lss) (.t 29) (.t 28))),
    (.set 30 (.o2 (.bin .lss) (.t 29) (.t 28)))]) (.seq (.cond 30 .skip (.exit 2)) (.seq (.block 3 (.seq (.sts [(.set 4 (.t 29))]) (.sts [(.eff [] (some 36) (.call 23) [(.t 2), (.t 4)] []),
    (.chk [] (.cb 4 [(0, (1, (.c (.int .i64 9)))), (3, (1, (.t 36)))])),
    (.chk [] (.c2 (.idxA 4) (.t 3) (.t 4))),
    (.eff [] none (.store 4) [(.o2 (.idxA 4) (.t 3) (.t 4)), (.o2 (.put 3 1) (.o2 (.put 0 1) (.c (.agg #[(.int .i64 0), (.int .i64 0), (str []), (.int .i64 0)])) (.c (.int .i64 9))) (.t 36))] [])]))) (.sts [(.chk [] (.c2 (.bin .add) (.t 29) (.c (.int .i64 1)))),
    (.set 39 (.o2 (.bin .add) (.t 29) (.c (.int .i64 1)))),
    (.set 29 (.t 39))]))))
def owWrite_L1 : S :=
  (.seq (.sts [(.chk [] (.c2 (.bin .lss) (.t 22) (.t 21))),
    (.set 23 (.o2 (.bin .lss) (.t 22) (.t 21)))]) (.seq (.cond 23 .skip (.exit 0)) (.seq (.block 1 (.seq (.sts [(.chk [] (.c2 (.idxA 1) (.t 20) (.t 22))),
    (.chk [] (.c1 .ld1 (.o2 (.idxA 1) (.t 20) (.t 22)))),
    (.set 2 (.t 22)),
    (.set 3 (.o1 .ld1 (.o2 (.idxA 1) (.t 20) (.t 22))))]) (.seq (.sts [(.chk [] (.c1 .len (.t 3))),
    (.set 28 (.o1 .len (.t 3))),
    (.set 29 (.c (.int .i64 0)))]) (.block 2 (.loop owWrite_L2))))) (.sts [(.chk [] (.c2 (.bin .add) (.t 22) (.c (.int .i64 1)))),
    (.set 40 (.o2 (.bin .add) (.t 22) (.c (.int .i64 1)))),
    (.set 22 (.t 40))]))))
def owWrite_L4 : S :=
  (.seq (.sts [(.chk [] (.c2 (.bin .lss) (.t 53) (.t 52))),
    (.set 54 (.o2 (.bin .lss) (.t 53) (.t 52)))]) (.seq (.cond 54 .skip (.exit 6)) (.seq (.block 7 (.seq (.sts [(.set 7 (.t 53))]) (.sts [(.eff [] (some 60) (.call 23) [(.t 5), (.t 7)] []),
    (.chk [] (.c2 (.idxA 14) (.t 6) (.t 7))),
    (.chk [] (.c1 (.fld 13) (.o2 (.idxA 14) (.t 6) (.t 7)))),
    (.eff [] none (.store 1) [(.o1 (.fld 13) (.o2 (.idxA 14) (.t 6) (.t 7))), (.t 60)] [])]))) (.sts [(.chk [] (.c2 (.bin .add) (.t 53) (.c (.int .i64 1)))),
    (.set 63 (.o2 (.bin .add) (.t 53) (.c (.int .i64 1)))),
    (.set 53 (.t 63))]))))
def owWrite_L3 : S :=
  (.seq (.sts [(.chk [] (.c2 (.bin .lss) (.t 46) (.t 45))),
    (.set 47 (.o2 (.bin .lss) (.t 46) (.t 45)))]) (.seq (.cond 47 .skip (.exit 4)) (.seq (.block 5 (.seq (.sts [(.chk [] (.c2 (.idxA 1) (.t 44) (.t 46))),
    (.chk [] (.c1 .ld1 (.o2 (.idxA 1) (.t 44) (.t 46)))),
    (.set 5 (.t 46)),
    (.set 6 (.o1 .ld1 (.o2 (.idxA 1) (.t 44) (.t 46))))]) (.seq (.sts [(.chk [] (.c1 .len (.t 6))),
    (.set 52 (.o1 .len (.t 6))),
    (.set 53 (.c (.int .i64 0)))]) (.block 6 (.loop owWrite_L4))))) (.sts [(.chk [] (.c2 (.bin .add) (.t 46) (.c (.int .i64 1)))),
    (.set 64 (.o2 (.bin .add) (.t 46) (.c (.int .i64 1)))),
    (.set 46 (.t 64))]))))
def owWrite_L6 : S :=
  (.seq (.sts [(.chk [] (.c2 (.bin .lss) (.t 77) (.t 76))),
    (.set 78 (.o2 (.bin .lss) (.t 77) (.t 76)))]) (.seq (.cond 78 .skip (.exit 10)) (.seq (.block 11 (.seq (.sts [(.set 10 (.t 77))]) (.sts [(.eff [] (some 84) (.call 23) [(.t 8), (.t 10)] []),
    (.chk [] (.c2 (.idxA 4) (.t 9) (.t 10))),
    (.chk [] (.c1 (.fld 0) (.o2 (.idxA 4) (.t 9) (.t 10)))),
    (.chk [] (.c1 (.fld 2) (.o1 (.fld 0) (.o2 (.idxA 4) (.t 9) (.t 10))))),
    (.eff [] none (.store 1) [(.o1 (.fld 2) (.o1 (.fld 0) (.o2 (.idxA 4) (.t 9) (.t 10)))), (.t 84)] [])]))) (.sts [(.chk [] (.c2 (.bin .add) (.t 77) (.c (.int .i64 1)))),
    (.set 88 (.o2 (.bin .add) (.t 77) (.c (.int .i64 1)))),
    (.set 77 (.t 88))]))))
def owWrite_L5 : S :=
  (.seq (.sts [(.chk [] (.c2 (.bin .lss) (.t 70) (.t 69))),
    (.set 71 (.o2 (.bin .lss) (.t 70) (.t 69)))]) (.seq (.cond 71 .skip (.exit 8)) (.seq (.block 9 (.seq (.sts [(.chk [] (.c2 (.idxA 1) (.t 68) (.t 70))),
    (.chk [] (.c1 .ld1 (.o2 (.idxA 1) (.t 68) (.t 70)))),
    (.set 8 (.t 70)),
    (.set 9 (.o1 .ld1 (.o2 (.idxA 1) (.t 68) (.t 70))))]) (.seq (.sts [(.chk [] (.c1 .len (.t 9))),
    (.set 76 (.o1 .len (.t 9))),
    (.set 77 (.c (.int .i64 0)))]) (.block 10 (.loop owWrite_L6))))) (.sts [(.chk [] (.c2 (.bin .add) (.t 70) (.c (.int .i64 1)))),
    (.set 89 (.o2 (.bin .add) (.t 70) (.c (.int .i64 1)))),
    (.set 70 (.t 89))]))))
def owWrite_L8 : S :=
  (.seq (.sts [(.chk [] (.c2 (.bin .lss) (.t 102) (.t 101))),
    (.set 103 (.o2 (.bin .lss) (.t 102) (.t 101)))]) (.seq (.cond 103 .skip (.exit 14)) (.seq (.block 15 (.seq (.sts [(.set 13 (.t 102))]) (.sts [(.eff [] (some 109) (.call 23) [(.t 11), (.t 13)] []),
    (.chk [] (.c2 (.idxA 3) (.t 12) (.t 13))),
    (.chk [] (.c1 (.fld 2) (.o2 (.idxA 3) (.t 12) (.t 13)))),
    (.eff [] none (.store 1) [(.o1 (.fld 2) (.o2 (.idxA 3) (.t 12) (.t 13))), (.t 109)] [])]))) (.sts [(.chk [] (.c2 (.bin .add) (.t 102) (.c (.int .i64 1)))),
    (.set 112 (.o2 (.bin .add) (.t 102) (.c (.int .i64 1)))),
    (.set 102 (.t 112))]))))
def owWrite_L7 : S :=
  (.seq (.sts [(.chk [] (.c2 (.bin .lss) (.t 95) (.t 94))),
    (.set 96 (.o2 (.bin .lss) (.t 95) (.t 94)))]) (.seq (.cond 96 .skip (.exit 12)) (.seq (.block 13 (.seq (.sts [(.chk [] (.c2 (.idxA 1) (.t 93) (.t 95))),
    (.chk [] (.c1 .ld1 (.o2 (.idxA 1) (.t 93) (.t 95)))),
    (.set 11 (.t 95)),
    (.set 12 (.o1 .ld1 (.o2 (.idxA 1) (.t 93) (.t 95))))]) (.seq (.sts [(.chk [] (.c1 .len (.t 12))),
    (.set 101 (.o1 .len (.t 12))),
    (.set 102 (.c (.int .i64 0)))]) (.block 14 (.loop owWrite_L8))))) (.sts [(.chk [] (.c2 (.bin .add) (.t 95) (.c (.int .i64 1)))),
    (.set 113 (.o2 (.bin .add) (.t 95) (.c (.int .i64 1)))),
    (.set 95 (.t 113))]))))
def owWrite_L10 : S :=
  (.seq (.sts [(.chk [] (.c2 (.bin .lss) (.t 126) (.t 125))),
    (.set 127 (.o2 (.bin .lss) (.t 126) (.t 125)))]) (.seq (.cond 127 .skip (.exit 18)) (.seq (.block 19 (.seq (.sts [(.set 16 (.t 126))]) (.sts [(.eff [] (some 133) (.call 23) [(.t 14), (.t 16)] []),
    (.chk [] (.cb 3 [(0, (1, (.c (.int .i64 9)))), (1, (1, (.t 133)))])),
    (.chk [] (.c2 (.idxA 3) (.t 15) (.t 16))),
    (.eff [] none (.store 3) [(.o2 (.idxA 3) (.t 15) (.t 16)), (.o2 (.put 1 1) (.o2 (.put 0 1) (.c (.agg #[(.int .i64 0), (.int .i64 0), (str [])])) (.c (.int .i64 9))) (.t 133))] [])]))) (.sts [(.chk [] (.c2 (.bin .add) (.t 126) (.c (.int .i64 1)))),
    (.set 136 (.o2 (.bin .add) (.t 126) (.c (.int .i64 1)))),
    (.set 126 (.t 136))]))))
def owWrite_L9 : S :=
  (.seq (.sts [(.chk [] (.c2 (.bin .lss) (.t 119) (.t 118))),
    (.set 120 (.o2 (.bin .lss) (.t 119) (.t 118)))]) (.seq (.cond 120 .skip (.exit 16)) (.seq (.block 17 (.seq (.sts [(.chk [] (.c2 (.idxA 1) (.t 117) (.t 119))),
    (.chk [] (.c1 .ld1 (.o2 (.idxA 1) (.t 117) (.t 119)))),
    (.set 14 (.t 119)),
    (.set 15 (.o1 .ld1 (.o2 (.idxA 1) (.t 117) (.t 119))))]) (.seq (.sts [(.chk [] (.c1 .len (.t 15))),
    (.set 125 (.o1 .len (.t 15))),
    (.set 126 (.c (.int .i64 0)))]) (.block 18 (.loop owWrite_L10))))) (.sts [(.chk [] (.c2 (.bin .add) (.t 119) (.c (.int .i64 1)))),
    (.set 137 (.o2 (.bin .add) (.t 119) (.c (.int .i64 1)))),
    (.set 119 (.t 137))]))))
def owWrite_S : S :=
  (.seq (.seq (.sts [(.chk [] (.c1 .nilck (.t 0))),
    (.chk [] (.c1 (.fld 0) (.t 0))),
    (.chk [] (.c1 .ld1 (.o1 (.fld 0) (.t 0)))),
    (.set 20 (.o1 .ld1 (.o1 (.fld 0) (.t 0)))),
    (.chk [] (.c1 .len (.t 20))),
    (.set 21 (.o1 .len (.t 20))),
    (.set 22 (.c (.int .i64 0)))]) (.block 0 (.loop owWrite_L1))) (.seq (.seq (.sts [(.chk [] (.c1 .nilck (.t 0))),
    (.chk [] (.c1 (.fld 2) (.t 0))),
    (.chk [] (.c1 .ld1 (.o1 (.fld 2) (.t 0)))),
    (.set 44 (.o1 .ld1 (.o1 (.fld 2) (.t 0)))),
    (.chk [] (.c1 .len (.t 44))),
    (.set 45 (.o1 .len (.t 44))),
    (.set 46 (.c (.int .i64 0)))]) (.block 4 (.loop owWrite_L3))) (.seq (.seq (.sts [(.chk [] (.c1 .nilck (.t 0))),
    (.chk [] (.c1 (.fld 4) (.t 0))),
    (.chk [] (.c1 .ld1 (.o1 (.fld 4) (.t 0)))),
    (.set 68 (.o1 .ld1 (.o1 (.fld 4) (.t 0)))),
    (.chk [] (.c1 .len (.t 68))),
    (.set 69 (.o1 .len (.t 68))),
    (.set 70 (.c (.int .i64 0)))]) (.block 8 (.loop owWrite_L5))) (.seq (.seq (.sts [(.chk [] (.c1 .nilck (.t 0))),
    (.chk [] (.c1 (.fld 6) (.t 0))),
    (.chk [] (.c1 .ld1 (.o1 (.fld 6) (.t 0)))),
    (.set 93 (.o1 .ld1 (.o1 (.fld 6) (.t 0)))),
    (.chk [] (.c1 .len (.t 93))),
    (.set 94 (.o1 .len (.t 93))),
    (.set 95 (.c (.int .i64 0)))]) (.block 12 (.loop owWrite_L7))) (.seq (.seq (.sts [(.chk [] (.c1 .nilck (.t 0))),
    (.chk [] (.c1 (.fld 8) (.t 0))),
    (.chk [] (.c1 .ld1 (.o1 (.fld 8) (.t 0)))),
    (.set 117 (.o1 .ld1 (.o1 (.fld 8) (.t 0)))),
    (.chk [] (.c1 .len (.t 117))),
    (.set 118 (.o1 .len (.t 117))),
    (.set 119 (.c (.int .i64 0)))]) (.block 16 (.loop owWrite_L9))) (.sts [(.eff [] (some 139) (.call 24) [(.t 0)] [])]))))))
def owWrite_E : Res := []
theorem owWrite_C : Tryd.f8.body.bind (comp Tryd.prog owWrite_M Tryd.f8.ntmps) = some owWrite_S := by kernel_rfl
theorem owWrite_R : resE Tryd.prog owWrite_M Tryd.f8.results.toList = some owWrite_E := by kernel_rfl
theorem owWrite_H (G : Ctr) (hG : GOk Tryd.prog G) (a0 : Value) {h : H} {K : Value → H → Prop} {KP : List PanicEntry → H → Prop} (Hw : wpS G owWrite_S (retQ owWrite_E (callK K KP)) (envOf 0 [a0] env0) h) : HCX Tryd.prog 8 [a0] h K KP :=
  .inl ⟨by kernel_rfl, hc_of mixed hG Tryd.func8 owWrite_C owWrite_R (of_decide_eq_true (by kernel_rfl)) Hw⟩
def owAsked_M : Nat → Bool := fun i => Nat.testBit 51 i
def owAsked_S : S :=
  (.seq (.sts [(.eff [] (some 4) (.alloc 34 #[(.slice none 0 0), (.int .i64 0), (.int .i64 0), (.int .i64 0), (.slice none 0 0), (.slice none 0 0), (str []), (.slice none 0 0)]) [] [])]) (.seq (.sts [(.eff [] (some 5) (.alloc 34 #[(.slice none 0 0), (.int .i64 0), (.int .i64 0), (.int .i64 0), (.slice none 0 0), (.slice none 0 0), (str []), (.slice none 0 0)]) [] [])]) (.seq (.sts [(.eff [] (some 8) (.call 11) [(.t 0)] []),
    (.chk [] (.c1 (.ext 0) (.t 8))),
    (.chk [] (.c1 (.ext 1) (.t 8))),
    (.chk [] (.c1 (.fld 0) (.t 5))),
    (.eff [] none (.store 1) [(.o1 (.fld 0) (.t 5)), (.o1 (.ext 0) (.t 8))] []),
    (.chk [] (.c1 (.fld 1) (.t 5))),
    (.eff [] none (.store 3) [(.o1 (.fld 1) (.t 5)), (.o1 (.ext 1) (.t 8))] [])]) (.seq (.sts [(.eff [] (some 15) (.call 12) [(.t 1)] []),
    (.chk [] (.c1 (.ext 0) (.t 15))),
    (.chk [] (.c1 (.ext 1) (.t 15))),
    (.chk [] (.c1 (.fld 4) (.t 5))),
    (.eff [] none (.store 1) [(.o1 (.fld 4) (.t 5)), (.o1 (.ext 0) (.t 15))] [])]) (.seq (.sts [(.eff [] (some 21) (.call 13) [(.t 1)] []),
    (.chk [] (.c1 (.ext 0) (.t 21))),
    (.chk [] (.c1 (.ext 1) (.t 21))),
    (.chk [] (.c1 (.fld 5) (.t 5))),
    (.eff [] none (.store 1) [(.o1 (.fld 5) (.t 5)), (.o1 (.ext 0) (.t 21))] [])]) (.seq (.sts [(.eff [] (some 27) (.call 14) [(.t 1)] []),
    (.chk [] (.c1 (.ext 0) (.t 27))),
    (.chk [] (.c1 (.ext 1) (.t 27))),
    (.chk [] (.c1 (.fld 6) (.t 5))),
    (.eff [] none (.store 2) [(.o1 (.fld 6) (.t 5)), (.o1 (.ext 0) (.t 27))] [])]) (.seq (.sts [(.chk [] (.c1 (.ldn 8) (.t 5))),
    (.set 31 (.o1 (.ldn 8) (.t 5))),
    (.eff [] none (.store 8) [(.t 4), (.t 31)] [])]) .ret)))))))
def owAsked_E : Res := [((some (.c1 (.ldn 8) (.t 4))), (.o1 (.ldn 8) (.t 4)))]
theorem owAsked_C : Tryd.f4.body.bind (comp Tryd.prog owAsked_M Tryd.f4.ntmps) = some owAsked_S := by kernel_rfl
theorem owAsked_R : resE Tryd.prog owAsked_M Tryd.f4.results.toList = some owAsked_E := by kernel_rfl
theorem owAsked_H (G : Ctr) (hG : GOk Tryd.prog G) (a0 : Value) (a1 : Value) {h : H} {K : Value → H → Prop} {KP : List PanicEntry → H → Prop} (Hw : wpS G owAsked_S (retQ owAsked_E (callK K KP)) (envOf 0 [a0, a1] env0) h) : HCX Tryd.prog 4 [a0, a1] h K KP :=
  .inl ⟨by kernel_rfl, hc_of mixed hG Tryd.func4 owAsked_C owAsked_R (of_decide_eq_true (by kernel_rfl)) Hw⟩
def owDeepAtom_M : Nat → Bool := fun i => Nat.testBit 15 i
def owDeepAtom_S : S :=
  (.seq (.sts [(.eff [] (some 1) (.box 60) [(.t 0)] []),
    (.eff [] (some 2) (.alloc 60 #[(str []), (.slice none 0 0), (.int .i64 0)]) [] [])]) (.seq (.sts [(.set 3 (.c (.slice none 0 0)))]) (.seq (.sts [(.chk [] (.c1 (.fld 1) (.t 1))),
    (.chk [] (.c1 .ld1 (.o1 (.fld 1) (.t 1)))),
    (.set 6 (.o1 .ld1 (.o1 (.fld 1) (.t 1)))),
    (.eff [] (some 7) (.app 72 4 40 [(.int .i64 0), (.int .i64 0), (str []), (.int .i64 0)]) [(.t 3), (.t 6)] []),
    (.chk [] (.c1 (.fld 1) (.t 1))),
    (.eff [] none (.store 1) [(.o1 (.fld 1) (.t 1)), (.t 7)] [])]) (.seq (.sts [(.chk [] (.c1 (.ldn 3) (.t 1))),
    (.set 9 (.o1 (.ldn 3) (.t 1))),
    (.eff [] none (.store 3) [(.t 2), (.t 9)] [])]) .ret))))
def owDeepAtom_E : Res := [((some (.c1 (.ldn 3) (.t 2))), (.o1 (.ldn 3) (.t 2)))]
theorem owDeepAtom_C : Tryd.f16.body.bind (comp Tryd.prog owDeepAtom_M Tryd.f16.ntmps) = some owDeepAtom_S := by kernel_rfl
theorem owDeepAtom_R : resE Tryd.prog owDeepAtom_M Tryd.f16.results.toList = some owDeepAtom_E := by kernel_rfl
theorem owDeepAtom_H (G : Ctr) (hG : GOk Tryd.prog G) (a0 : Value) {h : H} {K : Value → H → Prop} {KP : List PanicEntry → H → Prop} (Hw : wpS G owDeepAtom_S (retQ owDeepAtom_E (callK K KP)) (envOf 0 [a0] env0) h) : HCX Tryd.prog 16 [a0] h K KP :=
  .inl ⟨by kernel_rfl, hc_of mixed hG Tryd.func16 owDeepAtom_C owDeepAtom_R (of_decide_eq_true (by kernel_rfl)) Hw⟩
def owDeepBody_M : Nat → Bool := fun i => Nat.testBit 1005 i
def owDeepBody_L1 : S :=
  (.seq (.sts [(.chk [] (.c2 (.bin .lss) (.t 8) (.t 7))),
    (.set 9 (.o2 (.bin .lss) (.t 8) (.t 7)))]) (.seq (.cond 9 .skip (.exit 0)) (.seq (.block 1 (.seq (.sts [(.chk [] (.c2 (.idxA 14) (.t 6) (.t 8))),
    (.chk [] (.c1 (.ldn 14) (.o2 (.idxA 14) (.t 6) (.t 8)))),
    (.set 11 (.o1 (.ldn 14) (.o2 (.idxA 14) (.t 6) (.t 8)))),
    (.eff [] (some 5) (.alloc 74 #[(.int .i64 0), (str []), (.slice none 0 0), (.int .i64 0), (.int .i64 0), (.int .i64 0), (.int .i64 0), (str []), (.int .i64 0), (.int .i64 0), (.int .i64 0), (str []), (.int .i64 0), (.int .i64 0)]) [] []),
    (.eff [] none (.store 14) [(.t 5), (.t 11)] [])]) (.seq (.sts [(.chk [] (.c1 (.fld 1) (.t 5))),
    (.chk [] (.c1 (.ldn 3) (.o1 (.fld 1) (.t 5)))),
    (.set 13 (.o1 (.ldn 3) (.o1 (.fld 1) (.t 5)))),
    (.eff [] (some 14) (.call 16) [(.t 13)] []),
    (.chk [] (.c1 (.fld 1) (.t 5))),
    (.eff [] none (.store 3) [(.o1 (.fld 1) (.t 5)), (.t 14)] [])]) (.sts [(.chk [] (.c1 (.ldn 14) (.t 5))),
    (.set 17 (.o1 (.ldn 14) (.t 5))),
    (.eff [] (some 18) (.bsl 74 14 1 [(.int .i64 0), (str []), (.slice none 0 0), (.int .i64 0), (.int .i64 0), (.int .i64 0), (.int .i64 0), (str []), (.int .i64 0), (.int .i64 0), (.int .i64 0), (str []), (.int .i64 0), (.int .i64 0)] [0]) [(.t 17)] []),
    (.eff [] (some 19) (.app 74 14 152 [(.int .i64 0), (str []), (.slice none 0 0), (.int .i64 0), (.int .i64 0), (.int .i64 0), (.int .i64 0), (str []), (.int .i64 0), (.int .i64 0), (.int .i64 0), (str []), (.int .i64 0), (.int .i64 0)]) [(.t 3), (.t 18)] []),
    (.set 3 (.t 19))])))) (.sts [(.chk [] (.c2 (.bin .add) (.t 8) (.c (.int .i64 1)))),
    (.set 20 (.o2 (.bin .add) (.t 8) (.c (.int .i64 1)))),
    (.set 8 (.t 20))]))))
def owDeepBody_S : S :=
  (.seq (.sts [(.set 2 (.c (.slice none 0 0)))]) (.seq (.sts [(.set 3 (.c (.slice none 0 0)))]) (.seq (.seq (.sts [(.set 6 (.t 0)),
    (.chk [] (.c1 .len (.t 6))),
    (.set 7 (.o1 .len (.t 6))),
    (.set 8 (.c (.int .i64 0)))]) (.block 0 (.loop owDeepBody_L1))) (.seq (.sts [(.set 2 (.t 3))]) .ret))))
def owDeepBody_E : Res := [(none, (.t 2))]
theorem owDeepBody_C : Tryd.f15.body.bind (comp Tryd.prog owDeepBody_M Tryd.f15.ntmps) = some owDeepBody_S := by kernel_rfl
theorem owDeepBody_R : resE Tryd.prog owDeepBody_M Tryd.f15.results.toList = some owDeepBody_E := by kernel_rfl
theorem owDeepBody_H (G : Ctr) (hG : GOk Tryd.prog G) (a0 : Value) {h : H} {K : Value → H → Prop} {KP : List PanicEntry → H → Prop} (Hw : wpS G owDeepBody_S (retQ owDeepBody_E (callK K KP)) (envOf 0 [a0] env0) h) : HCX Tryd.prog 15 [a0] h K KP :=
  .inl ⟨by kernel_rfl, hc_of mixed hG Tryd.func15 owDeepBody_C owDeepBody_R (of_decide_eq_true (by kernel_rfl)) Hw⟩
def owDeep_M : Nat → Bool := fun i => Nat.testBit 65970713395375 i
def owDeep_L1 : S :=
  (.seq (.sts [(.chk [] (.c2 (.bin .lss) (.t 22) (.t 21))),
    (.set 23 (.o2 (.bin .lss) (.t 22) (.t 21)))]) (.seq (.cond 23 .skip (.exit 0)) (.seq (.block 1 (.seq (.sts [(.chk [] (.c2 (.idxA 4) (.t 20) (.t 22))),
    (.chk [] (.c1 (.ldn 4) (.o2 (.idxA 4) (.t 20) (.t 22)))),
    (.set 25 (.o1 (.ldn 4) (.o2 (.idxA 4) (.t 20) (.t 22)))),
    (.eff [] (some 5) (.alloc 62 #[(str []), (.slice none 0 0), (.int .i64 0), (.slice none 0 0)]) [] []),
    (.eff [] none (.store 4) [(.t 5), (.t 25)] [])]) (.sts [(.chk [] (.c1 (.fld 0) (.t 3))),
    (.chk [] (.c1 (.fld 0) (.o1 (.fld 0) (.t 3)))),
    (.chk [] (.c1 .ld1 (.o1 (.fld 0) (.o1 (.fld 0) (.t 3))))),
    (.chk [] (.c1 (.fld 0) (.t 5))),
    (.chk [] (.c1 (.ldn 3) (.o1 (.fld 0) (.t 5)))),
    (.chk [] (.c1 (.fld 3) (.t 5))),
    (.chk [] (.c1 .ld1 (.o1 (.fld 3) (.t 5)))),
    (.set 33 (.o1 .ld1 (.o1 (.fld 3) (.t 5)))),
    (.set 30 (.o1 (.ldn 3) (.o1 (.fld 0) (.t 5)))),
    (.set 28 (.o1 .ld1 (.o1 (.fld 0) (.o1 (.fld 0) (.t 3))))),
    (.eff [] (some 31) (.call 16) [(.t 30)] [([], ((.o1 (.fld 3) (.t 5)), none)), ([], ((.o1 (.fld 0) (.o1 (.fld 0) (.t 3))), none))]),
    (.eff [] (some 34) (.call 15) [(.t 33)] [([], ((.o1 (.fld 0) (.o1 (.fld 0) (.t 3))), none))]),
    (.chk [] (.cb 4 [(0, (3, (.t 31))), (3, (1, (.t 34)))])),
    (.eff [] (some 36) (.bsl 62 4 1 [(str []), (.slice none 0 0), (.int .i64 0), (.slice none 0 0)] [0]) [(.o2 (.put 3 1) (.o2 (.put 0 3) (.c (.agg #[(str []), (.slice none 0 0), (.int .i64 0), (.slice none 0 0)])) (.t 31)) (.t 34))] [([], ((.o1 (.fld 0) (.o1 (.fld 0) (.t 3))), none))]),
    (.eff [] (some 37) (.app 62 4 72 [(str []), (.slice none 0 0), (.int .i64 0), (.slice none 0 0)]) [(.t 28), (.t 36)] []),
    (.chk [] (.c1 (.fld 0) (.t 3))),
    (.chk [] (.c1 (.fld 0) (.o1 (.fld 0) (.t 3)))),
    (.eff [] none (.store 1) [(.o1 (.fld 0) (.o1 (.fld 0) (.t 3))), (.t 37)] [])]))) (.sts [(.chk [] (.c2 (.bin .add) (.t 22) (.c (.int .i64 1)))),
    (.set 40 (.o2 (.bin .add) (.t 22) (.c (.int .i64 1)))),
    (.set 22 (.t 40))]))))
def owDeep_L2 : S :=
  (.seq (.sts [(.chk [] (.c2 (.bin .lss) (.t 44) (.t 43))),
    (.set 45 (.o2 (.bin .lss) (.t 44) (.t 43)))]) (.seq (.cond 45 .skip (.exit 2)) (.seq (.block 3 (.seq (.sts [(.chk [] (.c2 (.idxA 3) (.t 42) (.t 44))),
    (.chk [] (.c1 (.ldn 3) (.o2 (.idxA 3) (.t 42) (.t 44)))),
    (.set 47 (.o1 (.ldn 3) (.o2 (.idxA 3) (.t 42) (.t 44)))),
    (.eff [] (some 7) (.alloc 60 #[(str []), (.slice none 0 0), (.int .i64 0)]) [] []),
    (.eff [] none (.store 3) [(.t 7), (.t 47)] [])]) (.sts [(.chk [] (.c1 (.fld 5) (.t 3))),
    (.chk [] (.c1 .ld1 (.o1 (.fld 5) (.t 3)))),
    (.chk [] (.c1 (.ldn 3) (.t 7))),
    (.set 50 (.o1 (.ldn 3) (.t 7))),
    (.set 49 (.o1 .ld1 (.o1 (.fld 5) (.t 3)))),
    (.eff [] (some 51) (.call 16) [(.t 50)] [([], ((.o1 (.fld 5) (.t 3)), none))]),
    (.eff [] (some 52) (.bsl 60 3 1 [(str []), (.slice none 0 0), (.int .i64 0)] [0]) [(.t 51)] [([], ((.o1 (.fld 5) (.t 3)), none))]),
    (.eff [] (some 53) (.app 60 3 48 [(str []), (.slice none 0 0), (.int .i64 0)]) [(.t 49), (.t 52)] []),
    (.chk [] (.c1 (.fld 5) (.t 3))),
    (.eff [] none (.store 1) [(.o1 (.fld 5) (.t 3)), (.t 53)] [])]))) (.sts [(.chk [] (.c2 (.bin .add) (.t 44) (.c (.int .i64 1)))),
    (.set 55 (.o2 (.bin .add) (.t 44) (.c (.int .i64 1)))),
    (.set 44 (.t 55))]))))
def owDeep_S : S :=
  (.seq (.sts [(.eff [] (some 1) (.box 34) [(.t 0)] []),
    (.eff [] (some 2) (.alloc 34 #[(.slice none 0 0), (.int .i64 0), (.int .i64 0), (.int .i64 0), (.slice none 0 0), (.slice none 0 0), (str []), (.slice none 0 0)]) [] [])]) (.seq (.join (.seq (.sts [(.chk [] (.c1 (.fld 1) (.t 1)))]) (.seq (.sts [(.chk [] (.c1 (.ldn 3) (.o1 (.fld 1) (.t 1))))]) (.seq (.sts [(.chk [] (.c1 (.fld 4) (.t 1)))]) (.seq (.sts [(.chk [] (.c1 .ld1 (.o1 (.fld 4) (.t 1))))]) (.seq (.sts [(.chk [] (.c1 (.fld 6) (.t 1)))]) (.seq (.sts [(.chk [] (.c1 (.fld 0) (.o1 (.fld 6) (.t 1))))]) (.seq (.sts [(.chk [] (.c1 .ld1 (.o1 (.fld 0) (.o1 (.fld 6) (.t 1)))))]) (.seq (.sts [(.chk [] (.cb 2 [(0, (1, (.o1 .ld1 (.o1 (.fld 0) (.o1 (.fld 6) (.t 1))))))]))]) (.both (.sts [(.set 16 (.o2 (.put 0 1) (.c (.agg #[(str []), (.slice none 0 0)])) (.o1 .ld1 (.o1 (.fld 0) (.o1 (.fld 6) (.t 1)))))),
    (.set 11 (.o1 .ld1 (.o1 (.fld 4) (.t 1)))),
    (.set 9 (.o1 (.ldn 3) (.o1 (.fld 1) (.t 1)))),
    (.eff [] (some 12) (.call 15) [(.t 11)] [([], ((.o1 (.fld 0) (.o1 (.fld 6) (.t 1))), none)), ([], ((.o1 (.fld 1) (.t 1)), (some 3)))]),
    (.chk [] (.cb 8 [(1, (3, (.t 9))), (4, (1, (.t 12))), (6, (2, (.t 16)))])),
    (.eff [] (some 3) (.alloc 34 #[(.slice none 0 0), (.int .i64 0), (.int .i64 0), (.int .i64 0), (.slice none 0 0), (.slice none 0 0), (str []), (.slice none 0 0)]) [] [([], ((.o1 (.fld 0) (.o1 (.fld 6) (.t 1))), none)), ([], ((.o1 (.fld 1) (.t 1)), (some 3)))]),
    (.eff [] none (.store 8) [(.t 3), (.o2 (.put 6 2) (.o2 (.put 4 1) (.o2 (.put 1 3) (.c (.agg #[(.slice none 0 0), (.int .i64 0), (.int .i64 0), (.int .i64 0), (.slice none 0 0), (.slice none 0 0), (str []), (.slice none 0 0)])) (.t 9)) (.t 12)) (.t 16))] [])]) (.sts [(.set 16 (.o2 (.put 0 1) (.c (.agg #[(str []), (.slice none 0 0)])) (.o1 .ld1 (.o1 (.fld 0) (.o1 (.fld 6) (.t 1)))))),
    (.set 11 (.o1 .ld1 (.o1 (.fld 4) (.t 1)))),
    (.set 9 (.o1 (.ldn 3) (.o1 (.fld 1) (.t 1)))),
    (.eff [] (some 3) (.alloc 34 #[(.slice none 0 0), (.int .i64 0), (.int .i64 0), (.int .i64 0), (.slice none 0 0), (.slice none 0 0), (str []), (.slice none 0 0)]) [] [([], ((.o1 (.fld 0) (.o1 (.fld 6) (.t 1))), none)), ([], ((.o1 (.fld 4) (.t 1)), none)), ([], ((.o1 (.fld 1) (.t 1)), (some 3)))]),
    (.eff [] (some 12) (.call 15) [(.t 11)] [([], ((.o1 (.fld 0) (.o1 (.fld 6) (.t 1))), none)), ([], ((.o1 (.fld 1) (.t 1)), (some 3)))]),
    (.chk [] (.cb 8 [(1, (3, (.t 9))), (4, (1, (.t 12))), (6, (2, (.t 16)))])),
    (.eff [] none (.store 8) [(.t 3), (.o2 (.put 6 2) (.o2 (.put 4 1) (.o2 (.put 1 3) (.c (.agg #[(.slice none 0 0), (.int .i64 0), (.int .i64 0), (.int .i64 0), (.slice none 0 0), (.slice none 0 0), (str []), (.slice none 0 0)])) (.t 9)) (.t 12)) (.t 16))] [])]))))))))))) (.seq (.seq (.sts [(.chk [] (.c1 (.fld 0) (.t 1))),
    (.chk [] (.c1 (.fld 0) (.o1 (.fld 0) (.t 1)))),
    (.chk [] (.c1 .ld1 (.o1 (.fld 0) (.o1 (.fld 0) (.t 1))))),
    (.set 20 (.o1 .ld1 (.o1 (.fld 0) (.o1 (.fld 0) (.t 1))))),
    (.chk [] (.c1 .len (.t 20))),
    (.set 21 (.o1 .len (.t 20))),
    (.set 22 (.c (.int .i64 0)))]) (.block 0 (.loop owDeep_L1))) (.seq (.seq (.sts [(.chk [] (.c1 (.fld 5) (.t 1))),
    (.chk [] (.c1 .ld1 (.o1 (.fld 5) (.t 1)))),
    (.set 42 (.o1 .ld1 (.o1 (.fld 5) (.t 1)))),
    (.chk [] (.c1 .len (.t 42))),
    (.set 43 (.o1 .len (.t 42))),
    (.set 44 (.c (.int .i64 0)))]) (.block 2 (.loop owDeep_L2))) (.seq (.sts [(.chk [] (.c1 (.fld 6) (.t 3))),
    (.chk [] (.c1 (.fld 1) (.o1 (.fld 6) (.t 3)))),
    (.chk [] (.c1 .ld1 (.o1 (.fld 1) (.o1 (.fld 6) (.t 3))))),
    (.chk [] (.c1 (.fld 6) (.t 1))),
    (.chk [] (.c1 (.fld 1) (.o1 (.fld 6) (.t 1)))),
    (.chk [] (.c1 .ld1 (.o1 (.fld 1) (.o1 (.fld 6) (.t 1))))),
    (.set 61 (.o1 .ld1 (.o1 (.fld 1) (.o1 (.fld 6) (.t 1))))),
    (.set 58 (.o1 .ld1 (.o1 (.fld 1) (.o1 (.fld 6) (.t 3))))),
    (.eff [] (some 62) (.app 76 3 32 [(.int .i64 0), (.int .i64 0), (str [])]) [(.t 58), (.t 61)] []),
    (.chk [] (.c1 (.fld 6) (.t 3))),
    (.chk [] (.c1 (.fld 1) (.o1 (.fld 6) (.t 3)))),
    (.eff [] none (.store 1) [(.o1 (.fld 1) (.o1 (.fld 6) (.t 3))), (.t 62)] [])]) (.seq (.sts [(.chk [] (.c1 (.ldn 8) (.t 3))),
    (.set 65 (.o1 (.ldn 8) (.t 3))),
    (.eff [] none (.store 8) [(.t 2), (.t 65)] [])]) .ret))))))
def owDeep_E : Res := [((some (.c1 (.ldn 8) (.t 2))), (.o1 (.ldn 8) (.t 2)))]
theorem owDeep_C : Tryd.f5.body.bind (comp Tryd.prog owDeep_M Tryd.f5.ntmps) = some owDeep_S := by kernel_rfl
theorem owDeep_R : resE Tryd.prog owDeep_M Tryd.f5.results.toList = some owDeep_E := by kernel_rfl
theorem owDeep_H (G : Ctr) (hG : GOk Tryd.prog G) (a0 : Value) {h : H} {K : Value → H → Prop} {KP : List PanicEntry → H → Prop} (Hw : wpS G owDeep_S (retQ owDeep_E (callK K KP)) (envOf 0 [a0] env0) h) : HCX Tryd.prog 5 [a0] h K KP :=
  .inl ⟨by kernel_rfl, hc_of mixed hG Tryd.func5 owDeep_C owDeep_R (of_decide_eq_true (by kernel_rfl)) Hw⟩
def owMark_M : Nat → Bool := fun i => Nat.testBit 19 i
def owMark_S : S :=
  (.seq (.sts [(.set 4 (.c (.int .i64 0)))]) (.seq (.sts [(.chk [] (.c2 (.bin .mul) (.c (.int .i64 100000)) (.t 0))),
    (.chk [] (.c2 (.bin .sub) (.c (.int .i64 (-1))) (.o2 (.bin .mul) (.c (.int .i64 100000)) (.t 0)))),
    (.chk [] (.c2 (.bin .sub) (.o2 (.bin .sub) (.c (.int .i64 (-1))) (.o2 (.bin .mul) (.c (.int .i64 100000)) (.t 0))) (.t 1))),
    (.set 4 (.o2 (.bin .sub) (.o2 (.bin .sub) (.c (.int .i64 (-1))) (.o2 (.bin .mul) (.c (.int .i64 100000)) (.t 0))) (.t 1)))]) .ret))
def owMark_E : Res := [(none, (.t 4))]
theorem owMark_C : Tryd.f23.body.bind (comp Tryd.prog owMark_M Tryd.f23.ntmps) = some owMark_S := by kernel_rfl
theorem owMark_R : resE Tryd.prog owMark_M Tryd.f23.results.toList = some owMark_E := by kernel_rfl
theorem owMark_H (G : Ctr) (hG : GOk Tryd.prog G) (a0 : Value) (a1 : Value) {h : H} {K : Value → H → Prop} {KP : List PanicEntry → H → Prop} (Hw : wpS G owMark_S (retQ owMark_E (callK K KP)) (envOf 0 [a0, a1] env0) h) : HCX Tryd.prog 23 [a0, a1] h K KP :=
  .inl ⟨by kernel_rfl, hc_of mixed hG Tryd.func23 owMark_C owMark_R (of_decide_eq_true (by kernel_rfl)) Hw⟩
def owSame_M : Nat → Bool := fun i => Nat.testBit 31 i
def owSame_S : S :=
  (.seq (.sts [(.eff [] (some 2) (.box 34) [(.t 0)] []),
    (.eff [] (some 3) (.box 34) [(.t 1)] []),
    (.set 4 (.c (.bool false)))]) (.seq (.sts [(.chk [] (.c1 (.fld 1) (.t 2))),
    (.chk [] (.c1 (.ldn 3) (.o1 (.fld 1) (.t 2)))),
    (.chk [] (.c1 (.fld 1) (.t 3))),
    (.chk [] (.c1 (.ldn 3) (.o1 (.fld 1) (.t 3)))),
    (.chk [] (.c2 (.eqs false [(.int .i64), (.int .i64), (.int .i64)]) (.o1 (.ldn 3) (.o1 (.fld 1) (.t 2))) (.o1 (.ldn 3) (.o1 (.fld 1) (.t 3))))),
    (.chk [((.o2 (.eqs false [(.int .i64), (.int .i64), (.int .i64)]) (.o1 (.ldn 3) (.o1 (.fld 1) (.t 2))) (.o1 (.ldn 3) (.o1 (.fld 1) (.t 3)))), true)] (.c1 (.fld 0) (.t 2))),
    (.chk [((.o2 (.eqs false [(.int .i64), (.int .i64), (.int .i64)]) (.o1 (.ldn 3) (.o1 (.fld 1) (.t 2))) (.o1 (.ldn 3) (.o1 (.fld 1) (.t 3)))), true)] (.c1 (.fld 0) (.o1 (.fld 0) (.t 2)))),
    (.chk [((.o2 (.eqs false [(.int .i64), (.int .i64), (.int .i64)]) (.o1 (.ldn 3) (.o1 (.fld 1) (.t 2))) (.o1 (.ldn 3) (.o1 (.fld 1) (.t 3)))), true)] (.c1 .ld1 (.o1 (.fld 0) (.o1 (.fld 0) (.t 2))))),
    (.chk [((.o2 (.eqs false [(.int .i64), (.int .i64), (.int .i64)]) (.o1 (.ldn 3) (.o1 (.fld 1) (.t 2))) (.o1 (.ldn 3) (.o1 (.fld 1) (.t 3)))), true)] (.c1 (.fld 0) (.t 3))),
    (.chk [((.o2 (.eqs false [(.int .i64), (.int .i64), (.int .i64)]) (.o1 (.ldn 3) (.o1 (.fld 1) (.t 2))) (.o1 (.ldn 3) (.o1 (.fld 1) (.t 3)))), true)] (.c1 (.fld 0) (.o1 (.fld 0) (.t 3)))),
    (.chk [((.o2 (.eqs false [(.int .i64), (.int .i64), (.int .i64)]) (.o1 (.ldn 3) (.o1 (.fld 1) (.t 2))) (.o1 (.ldn 3) (.o1 (.fld 1) (.t 3)))), true)] (.c1 .ld1 (.o1 (.fld 0) (.o1 (.fld 0) (.t 3))))),
    (.set 16 (.o1 .ld1 (.o1 (.fld 0) (.o1 (.fld 0) (.t 3))))),
    (.set 13 (.o1 .ld1 (.o1 (.fld 0) (.o1 (.fld 0) (.t 2))))),
    (.set 10 (.o2 (.eqs false [(.int .i64), (.int .i64), (.int .i64)]) (.o1 (.ldn 3) (.o1 (.fld 1) (.t 2))) (.o1 (.ldn 3) (.o1 (.fld 1) (.t 3))))),
    (.eff [((.t 10), true)] (some 17) (.call 17) [(.t 13), (.t 16)] []),
    (.chk [] (.c3 .pick (.t 10) (.t 17) (.c (.bool false)))),
    (.chk [((.o3 .pick (.t 10) (.t 17) (.c (.bool false))), true)] (.c1 (.fld 4) (.t 2))),
    (.chk [((.o3 .pick (.t 10) (.t 17) (.c (.bool false))), true)] (.c1 .ld1 (.o1 (.fld 4) (.t 2)))),
    (.chk [((.o3 .pick (.t 10) (.t 17) (.c (.bool false))), true)] (.c1 (.fld 4) (.t 3))),
    (.chk [((.o3 .pick (.t 10) (.t 17) (.c (.bool false))), true)] (.c1 .ld1 (.o1 (.fld 4) (.t 3)))),
    (.set 23 (.o1 .ld1 (.o1 (.fld 4) (.t 3)))),
    (.set 21 (.o1 .ld1 (.o1 (.fld 4) (.t 2)))),
    (.eff [((.o3 .pick (.t 10) (.t 17) (.c (.bool false))), true)] (some 24) (.call 18) [(.t 21), (.t 23)] []),
    (.chk [] (.c3 .pick (.o3 .pick (.t 10) (.t 17) (.c (.bool false))) (.t 24) (.c (.bool false)))),
    (.chk [((.o3 .pick (.o3 .pick (.t 10) (.t 17) (.c (.bool false))) (.t 24) (.c (.bool false))), true)] (.c1 (.fld 5) (.t 2))),
    (.chk [((.o3 .pick (.o3 .pick (.t 10) (.t 17) (.c (.bool false))) (.t 24) (.c (.bool false))), true)] (.c1 .ld1 (.o1 (.fld 5) (.t 2)))),
    (.chk [((.o3 .pick (.o3 .pick (.t 10) (.t 17) (.c (.bool false))) (.t 24) (.c (.bool false))), true)] (.c1 (.fld 5) (.t 3))),
    (.chk [((.o3 .pick (.o3 .pick (.t 10) (.t 17) (.c (.bool false))) (.t 24) (.c (.bool false))), true)] (.c1 .ld1 (.o1 (.fld 5) (.t 3)))),
    (.set 30 (.o1 .ld1 (.o1 (.fld 5) (.t 3)))),
    (.set 28 (.o1 .ld1 (.o1 (.fld 5) (.t 2)))),
    (.eff [((.o3 .pick (.o3 .pick (.t 10) (.t 17) (.c (.bool false))) (.t 24) (.c (.bool false))), true)] (some 31) (.call 19) [(.t 28), (.t 30)] []),
    (.chk [] (.c3 .pick (.o3 .pick (.o3 .pick (.t 10) (.t 17) (.c (.bool false))) (.t 24) (.c (.bool false))) (.t 31) (.c (.bool false)))),
    (.chk [((.o3 .pick (.o3 .pick (.o3 .pick (.t 10) (.t 17) (.c (.bool false))) (.t 24) (.c (.bool false))) (.t 31) (.c (.bool false))), true)] (.c1 (.fld 6) (.t 2))),
    (.chk [((.o3 .pick (.o3 .pick (.o3 .pick (.t 10) (.t 17) (.c (.bool false))) (.t 24) (.c (.bool false))) (.t 31) (.c (.bool false))), true)] (.c1 (.ldn 2) (.o1 (.fld 6) (.t 2)))),
    (.chk [((.o3 .pick (.o3 .pick (.o3 .pick (.t 10) (.t 17) (.c (.bool false))) (.t 24) (.c (.bool false))) (.t 31) (.c (.bool false))), true)] (.c1 (.fld 6) (.t 3))),
    (.chk [((.o3 .pick (.o3 .pick (.o3 .pick (.t 10) (.t 17) (.c (.bool false))) (.t 24) (.c (.bool false))) (.t 31) (.c (.bool false))), true)] (.c1 (.ldn 2) (.o1 (.fld 6) (.t 3)))),
    (.set 37 (.o1 (.ldn 2) (.o1 (.fld 6) (.t 3)))),
    (.set 35 (.o1 (.ldn 2) (.o1 (.fld 6) (.t 2)))),
    (.eff [((.o3 .pick (.o3 .pick (.o3 .pick (.t 10) (.t 17) (.c (.bool false))) (.t 24) (.c (.bool false))) (.t 31) (.c (.bool false))), true)] (some 38) (.call 20) [(.t 35), (.t 37)] []),
    (.chk [] (.c3 .pick (.o3 .pick (.o3 .pick (.o3 .pick (.t 10) (.t 17) (.c (.bool false))) (.t 24) (.c (.bool false))) (.t 31) (.c (.bool false))) (.t 38) (.c (.bool false)))),
    (.set 4 (.o3 .pick (.o3 .pick (.o3 .pick (.o3 .pick (.t 10) (.t 17) (.c (.bool false))) (.t 24) (.c (.bool false))) (.t 31) (.c (.bool false))) (.t 38) (.c (.bool false))))]) .ret))
def owSame_E : Res := [(none, (.t 4))]
theorem owSame_C : Tryd.f6.body.bind (comp Tryd.prog owSame_M Tryd.f6.ntmps) = some owSame_S := by kernel_rfl
theorem owSame_R : resE Tryd.prog owSame_M Tryd.f6.results.toList = some owSame_E := by kernel_rfl
theorem owSame_H (G : Ctr) (hG : GOk Tryd.prog G) (a0 : Value) (a1 : Value) {h : H} {K : Value → H → Prop} {KP : List PanicEntry → H → Prop} (Hw : wpS G owSame_S (retQ owSame_E (callK K KP)) (envOf 0 [a0, a1] env0) h) : HCX Tryd.prog 6 [a0, a1] h K KP :=
  .inl ⟨by kernel_rfl, hc_of mixed hG Tryd.func6 owSame_C owSame_R (of_decide_eq_true (by kernel_rfl)) Hw⟩
def owLaw_M : Nat → Bool := fun i => Nat.testBit 562949953425395 i
def owLaw_S : S :=
  (.seq (.sts [(.set 4 (.c (.bool false)))]) (.seq (.sts [(.eff [] (some 14) (.call 4) [(.t 0), (.t 1)] []),
    (.eff [] (some 5) (.alloc 34 #[(.slice none 0 0), (.int .i64 0), (.int .i64 0), (.int .i64 0), (.slice none 0 0), (.slice none 0 0), (str []), (.slice none 0 0)]) [] []),
    (.eff [] none (.store 8) [(.t 5), (.t 14)] [])]) (.seq (.sts [(.chk [] (.c1 (.ldn 8) (.t 5))),
    (.set 15 (.o1 (.ldn 8) (.t 5))),
    (.eff [] (some 16) (.call 5) [(.t 15)] []),
    (.eff [] (some 6) (.alloc 34 #[(.slice none 0 0), (.int .i64 0), (.int .i64 0), (.int .i64 0), (.slice none 0 0), (.slice none 0 0), (str []), (.slice none 0 0)]) [] []),
    (.eff [] none (.store 8) [(.t 6), (.t 16)] [])]) (.seq (.sts [(.eff [] (some 19) (.call 4) [(.t 0), (.t 1)] []),
    (.eff [] (some 7) (.alloc 34 #[(.slice none 0 0), (.int .i64 0), (.int .i64 0), (.int .i64 0), (.slice none 0 0), (.slice none 0 0), (str []), (.slice none 0 0)]) [] []),
    (.eff [] none (.store 8) [(.t 7), (.t 19)] [])]) (.seq (.sts [(.eff [] (some 22) (.call 4) [(.t 1), (.t 0)] []),
    (.eff [] (some 8) (.alloc 34 #[(.slice none 0 0), (.int .i64 0), (.int .i64 0), (.int .i64 0), (.slice none 0 0), (.slice none 0 0), (str []), (.slice none 0 0)]) [] []),
    (.eff [] none (.store 8) [(.t 8), (.t 22)] [])]) (.seq (.sts [(.chk [] (.c1 (.ldn 8) (.t 8))),
    (.set 23 (.o1 (.ldn 8) (.t 8))),
    (.eff [] (some 24) (.call 5) [(.t 23)] []),
    (.eff [] (some 9) (.alloc 34 #[(.slice none 0 0), (.int .i64 0), (.int .i64 0), (.int .i64 0), (.slice none 0 0), (.slice none 0 0), (str []), (.slice none 0 0)]) [] []),
    (.eff [] none (.store 8) [(.t 9), (.t 24)] [])]) (.seq (.sts [(.eff [] (some 27) (.call 4) [(.t 0), (.t 1)] []),
    (.eff [] (some 10) (.alloc 34 #[(.slice none 0 0), (.int .i64 0), (.int .i64 0), (.int .i64 0), (.slice none 0 0), (.slice none 0 0), (str []), (.slice none 0 0)]) [] []),
    (.eff [] none (.store 8) [(.t 10), (.t 27)] [])]) (.seq (.seq (.sts [(.chk [] (.c1 (.ldn 8) (.t 5))),
    (.chk [] (.c1 (.ldn 8) (.t 6))),
    (.set 29 (.o1 (.ldn 8) (.t 6))),
    (.set 28 (.o1 (.ldn 8) (.t 5))),
    (.eff [] (some 30) (.call 6) [(.t 28), (.t 29)] []),
    (.chk [] (.c1 .not (.t 30))),
    (.chk [((.o1 .not (.t 30)), false)] (.c1 (.ldn 8) (.t 7))),
    (.chk [((.o1 .not (.t 30)), false)] (.c1 (.ldn 8) (.t 6))),
    (.set 34 (.o1 (.ldn 8) (.t 6))),
    (.set 33 (.o1 (.ldn 8) (.t 7))),
    (.eff [((.o1 .not (.t 30)), false)] (some 35) (.call 6) [(.t 33), (.t 34)] []),
    (.chk [((.o1 .not (.t 30)), false)] (.c1 .not (.t 35))),
    (.chk [] (.c3 .pick (.o1 .not (.t 30)) (.c (.bool true)) (.o1 .not (.t 35)))),
    (.chk [((.o3 .pick (.o1 .not (.t 30)) (.c (.bool true)) (.o1 .not (.t 35))), false)] (.c1 (.ldn 8) (.t 8))),
    (.chk [((.o3 .pick (.o1 .not (.t 30)) (.c (.bool true)) (.o1 .not (.t 35))), false)] (.c1 (.ldn 8) (.t 9))),
    (.set 40 (.o1 (.ldn 8) (.t 9))),
    (.set 39 (.o1 (.ldn 8) (.t 8))),
    (.eff [((.o3 .pick (.o1 .not (.t 30)) (.c (.bool true)) (.o1 .not (.t 35))), false)] (some 41) (.call 6) [(.t 39), (.t 40)] []),
    (.chk [((.o3 .pick (.o1 .not (.t 30)) (.c (.bool true)) (.o1 .not (.t 35))), false)] (.c1 .not (.t 41))),
    (.chk [] (.c3 .pick (.o3 .pick (.o1 .not (.t 30)) (.c (.bool true)) (.o1 .not (.t 35))) (.c (.bool true)) (.o1 .not (.t 41)))),
    (.chk [((.o3 .pick (.o3 .pick (.o1 .not (.t 30)) (.c (.bool true)) (.o1 .not (.t 35))) (.c (.bool true)) (.o1 .not (.t 41))), false)] (.c1 (.ldn 8) (.t 10))),
    (.chk [((.o3 .pick (.o3 .pick (.o1 .not (.t 30)) (.c (.bool true)) (.o1 .not (.t 35))) (.c (.bool true)) (.o1 .not (.t 41))), false)] (.c1 (.ldn 8) (.t 6))),
    (.set 46 (.o1 (.ldn 8) (.t 6))),
    (.set 45 (.o1 (.ldn 8) (.t 10))),
    (.eff [((.o3 .pick (.o3 .pick (.o1 .not (.t 30)) (.c (.bool true)) (.o1 .not (.t 35))) (.c (.bool true)) (.o1 .not (.t 41))), false)] (some 47) (.call 6) [(.t 45), (.t 46)] []),
    (.chk [((.o3 .pick (.o3 .pick (.o1 .not (.t 30)) (.c (.bool true)) (.o1 .not (.t 35))) (.c (.bool true)) (.o1 .not (.t 41))), false)] (.c1 .not (.t 47))),
    (.chk [] (.c3 .pick (.o3 .pick (.o3 .pick (.o1 .not (.t 30)) (.c (.bool true)) (.o1 .not (.t 35))) (.c (.bool true)) (.o1 .not (.t 41))) (.c (.bool true)) (.o1 .not (.t 47)))),
    (.set 49 (.o3 .pick (.o3 .pick (.o3 .pick (.o1 .not (.t 30)) (.c (.bool true)) (.o1 .not (.t 35))) (.c (.bool true)) (.o1 .not (.t 41))) (.c (.bool true)) (.o1 .not (.t 47))))]) (.cond 49 (.seq (.sts [(.set 4 (.c (.bool false)))]) .ret) .skip)) (.seq (.sts [(.chk [] (.cb 10 [])),
    (.eff [] (some 51) (.box 45) [(.c (.agg #[(.slice none 0 0), (.slice none 0 0), (.slice none 0 0), (.slice none 0 0), (.slice none 0 0), (.slice none 0 0), (.slice none 0 0), (.slice none 0 0), (.slice none 0 0), (.slice none 0 0)]))] []),
    (.set 11 (.t 51))]) (.seq (.sts [(.chk [] (.c1 (.ldn 8) (.t 5))),
    (.set 53 (.o1 (.ldn 8) (.t 5))),
    (.eff [] (some 54) (.call 7) [(.t 11), (.t 53)] [])]) (.seq (.sts [(.chk [] (.c1 (.ldn 8) (.t 7))),
    (.set 56 (.o1 (.ldn 8) (.t 7))),
    (.eff [] (some 57) (.call 7) [(.t 11), (.t 56)] [])]) (.seq (.sts [(.chk [] (.c1 (.ldn 8) (.t 8))),
    (.set 59 (.o1 (.ldn 8) (.t 8))),
    (.eff [] (some 60) (.call 7) [(.t 11), (.t 59)] [])]) (.seq (.sts [(.chk [] (.c1 (.ldn 8) (.t 10))),
    (.set 62 (.o1 (.ldn 8) (.t 10))),
    (.eff [] (some 63) (.call 7) [(.t 11), (.t 62)] [])]) (.seq (.sts [(.eff [] (some 65) (.call 8) [(.t 11)] [])]) (.seq (.sts [(.eff [] (some 67) (.call 9) [(.t 11)] []),
    (.chk [((.t 67), true)] (.c1 (.ldn 8) (.t 6))),
    (.set 72 (.o1 (.ldn 8) (.t 6))),
    (.eff [((.t 67), true)] (some 71) (.call 4) [(.t 0), (.t 1)] [([((.t 67), true)], ((.t 6), (some 8)))]),
    (.eff [((.t 67), true)] (some 73) (.call 6) [(.t 71), (.t 72)] []),
    (.chk [] (.c3 .pick (.t 67) (.t 73) (.c (.bool false)))),
    (.chk [((.o3 .pick (.t 67) (.t 73) (.c (.bool false))), true)] (.c1 (.ldn 8) (.t 9))),
    (.set 79 (.o1 (.ldn 8) (.t 9))),
    (.eff [((.o3 .pick (.t 67) (.t 73) (.c (.bool false))), true)] (some 78) (.call 4) [(.t 1), (.t 0)] [([((.o3 .pick (.t 67) (.t 73) (.c (.bool false))), true)], ((.t 9), (some 8)))]),
    (.eff [((.o3 .pick (.t 67) (.t 73) (.c (.bool false))), true)] (some 80) (.call 6) [(.t 78), (.t 79)] []),
    (.chk [] (.c3 .pick (.o3 .pick (.t 67) (.t 73) (.c (.bool false))) (.t 80) (.c (.bool false)))),
    (.eff [((.o3 .pick (.o3 .pick (.t 67) (.t 73) (.c (.bool false))) (.t 80) (.c (.bool false))), true)] (some 84) (.call 9) [(.t 11)] []),
    (.chk [] (.c3 .pick (.o3 .pick (.o3 .pick (.t 67) (.t 73) (.c (.bool false))) (.t 80) (.c (.bool false))) (.t 84) (.c (.bool false)))),
    (.eff [((.o3 .pick (.o3 .pick (.o3 .pick (.t 67) (.t 73) (.c (.bool false))) (.t 80) (.c (.bool false))) (.t 84) (.c (.bool false))), true)] (some 87) (.call 10) [] []),
    (.chk [] (.c3 .pick (.o3 .pick (.o3 .pick (.o3 .pick (.t 67) (.t 73) (.c (.bool false))) (.t 80) (.c (.bool false))) (.t 84) (.c (.bool false))) (.t 87) (.c (.bool false)))),
    (.set 4 (.o3 .pick (.o3 .pick (.o3 .pick (.o3 .pick (.t 67) (.t 73) (.c (.bool false))) (.t 80) (.c (.bool false))) (.t 84) (.c (.bool false))) (.t 87) (.c (.bool false))))]) .ret)))))))))))))))
def owLaw_E : Res := [(none, (.t 4))]
theorem owLaw_C : Tryd.f3.body.bind (comp Tryd.prog owLaw_M Tryd.f3.ntmps) = some owLaw_S := by kernel_rfl
theorem owLaw_R : resE Tryd.prog owLaw_M Tryd.f3.results.toList = some owLaw_E := by kernel_rfl
theorem owLaw_H (G : Ctr) (hG : GOk Tryd.prog G) (a0 : Value) (a1 : Value) {h : H} {K : Value → H → Prop} {KP : List PanicEntry → H → Prop} (Hw : wpS G owLaw_S (retQ owLaw_E (callK K KP)) (envOf 0 [a0, a1] env0) h) : HCX Tryd.prog 3 [a0, a1] h K KP :=
  .inl ⟨by kernel_rfl, hc_of mixed hG Tryd.func3 owLaw_C owLaw_R (of_decide_eq_true (by kernel_rfl)) Hw⟩
end Go.Proofs.YtlenjlidahnklaaDoor
