/- The small statements of functions of the program, as the closed computation gives them (written by a program of ours; checked by the kernel below). -/
import Derived.Test.YtmnfhmbmifompaaDoorEvB
import Derived.Test.YtmnfhmbmifompaaDoorProg
import Derived.KernelRfl
import Derived.Test.YtmnfhmbmifompaaDoorPlS
namespace Go.Proofs.YtmnfhmbmifompaaDoor
open Go Go.Ev
def plShiftAtom_M : Nat → Bool := fun i => Nat.testBit 983223 i
def plShiftAtom_L1 : S :=
  (.seq (.sts [(.chk [] (.c2 (.bin .lss) (.t 18) (.t 17))),
    (.set 19 (.o2 (.bin .lss) (.t 18) (.t 17)))]) (.seq (.cond 19 .skip (.exit 0)) (.seq (.block 1 (.seq (.sts [(.chk [] (.c2 (.idxA 4) (.t 16) (.t 18))),
    (.chk [] (.c1 (.ldn 4) (.o2 (.idxA 4) (.t 16) (.t 18)))),
    (.set 21 (.o1 (.ldn 4) (.o2 (.idxA 4) (.t 16) (.t 18)))),
    (.eff [] (some 7) (.alloc 87 #[(.int .i64 0), (.int .i64 0), (str []), (.int .i64 0)]) [] []),
    (.eff [] none (.store 4) [(.t 7), (.t 21)] [])]) (.seq (.sts [(.chk [] (.c1 (.fld 3) (.t 7))),
    (.chk [] (.c1 .ld1 (.o1 (.fld 3) (.t 7)))),
    (.chk [] (.c2 (.bin .add) (.o1 .ld1 (.o1 (.fld 3) (.t 7))) (.t 1))),
    (.chk [] (.c1 (.fld 3) (.t 7))),
    (.set 25 (.o2 (.bin .add) (.o1 .ld1 (.o1 (.fld 3) (.t 7))) (.t 1))),
    (.eff [] none (.store 1) [(.o1 (.fld 3) (.t 7)), (.t 25)] [])]) (.sts [(.chk [] (.c1 (.fld 1) (.t 5))),
    (.chk [] (.c1 .ld1 (.o1 (.fld 1) (.t 5)))),
    (.chk [] (.c1 (.ldn 4) (.t 7))),
    (.set 29 (.o1 (.ldn 4) (.t 7))),
    (.set 28 (.o1 .ld1 (.o1 (.fld 1) (.t 5)))),
    (.eff [] (some 30) (.bsl 87 4 1 [(.int .i64 0), (.int .i64 0), (str []), (.int .i64 0)] [0]) [(.t 29)] []),
    (.eff [] (some 31) (.app 87 4 40 [(.int .i64 0), (.int .i64 0), (str []), (.int .i64 0)]) [(.t 28), (.t 30)] []),
    (.chk [] (.c1 (.fld 1) (.t 5))),
    (.eff [] none (.store 1) [(.o1 (.fld 1) (.t 5)), (.t 31)] [])])))) (.sts [(.chk [] (.c2 (.bin .add) (.t 18) (.c (.int .i64 1)))),
    (.set 33 (.o2 (.bin .add) (.t 18) (.c (.int .i64 1)))),
    (.set 18 (.t 33))]))))
def plShiftAtom_S : S :=
  (.seq (.sts [(.eff [] (some 2) (.box 52) [(.t 0)] []),
    (.eff [] (some 4) (.alloc 52 #[(str []), (.slice none 0 0), (.int .i64 0)]) [] [])]) (.seq (.sts [(.chk [] (.c1 (.fld 0) (.t 2))),
    (.chk [] (.c1 .ld1 (.o1 (.fld 0) (.t 2)))),
    (.chk [] (.c1 (.fld 2) (.t 2))),
    (.chk [] (.c1 .ld1 (.o1 (.fld 2) (.t 2)))),
    (.chk [] (.c2 (.bin .add) (.o1 .ld1 (.o1 (.fld 2) (.t 2))) (.t 1))),
    (.chk [] (.cb 3 [(0, (1, (.o1 .ld1 (.o1 (.fld 0) (.t 2))))), (2, (1, (.o2 (.bin .add) (.o1 .ld1 (.o1 (.fld 2) (.t 2))) (.t 1))))])),
    (.set 14 (.o2 (.put 2 1) (.o2 (.put 0 1) (.c (.agg #[(str []), (.slice none 0 0), (.int .i64 0)])) (.o1 .ld1 (.o1 (.fld 0) (.t 2)))) (.o2 (.bin .add) (.o1 .ld1 (.o1 (.fld 2) (.t 2))) (.t 1)))),
    (.eff [] (some 5) (.alloc 52 #[(str []), (.slice none 0 0), (.int .i64 0)]) [] []),
    (.eff [] none (.store 3) [(.t 5), (.t 14)] [])]) (.seq (.seq (.sts [(.chk [] (.c1 (.fld 1) (.t 2))),
    (.chk [] (.c1 .ld1 (.o1 (.fld 1) (.t 2)))),
    (.set 16 (.o1 .ld1 (.o1 (.fld 1) (.t 2)))),
    (.chk [] (.c1 .len (.t 16))),
    (.set 17 (.o1 .len (.t 16))),
    (.set 18 (.c (.int .i64 0)))]) (.block 0 (.loop plShiftAtom_L1))) (.seq (.sts [(.chk [] (.c1 (.ldn 3) (.t 5))),
    (.set 34 (.o1 (.ldn 3) (.t 5))),
    (.eff [] none (.store 3) [(.t 4), (.t 34)] [])]) .ret))))
def plShiftAtom_E : Res := [((some (.c1 (.ldn 3) (.t 4))), (.o1 (.ldn 3) (.t 4)))]
theorem plShiftAtom_C : Tryd.f39.body.bind (comp Tryd.prog plShiftAtom_M Tryd.f39.ntmps) = some plShiftAtom_S := by kernel_rfl
theorem plShiftAtom_R : resE Tryd.prog plShiftAtom_M Tryd.f39.results.toList = some plShiftAtom_E := by kernel_rfl
theorem plShiftAtom_H (G : Ctr) (hG : GOk Tryd.prog G) (a0 : Value) (a1 : Value) {h : H} {K : Value → H → Prop} {KP : List PanicEntry → H → Prop} (Hw : wpS G plShiftAtom_S (retQ plShiftAtom_E (callK K KP)) (envOf 0 [a0, a1] env0) h) : HCX Tryd.prog 39 [a0, a1] h K KP :=
  .inl ⟨by kernel_rfl, hc_of mixed hG Tryd.func39 plShiftAtom_C plShiftAtom_R (of_decide_eq_true (by kernel_rfl)) Hw⟩
def plShiftBody_M : Nat → Bool := fun i => Nat.testBit 2101171 i
def plShiftBody_L1 : S :=
  (.seq (.sts [(.chk [] (.c2 (.bin .lss) (.t 10) (.t 9))),
    (.set 11 (.o2 (.bin .lss) (.t 10) (.t 9)))]) (.seq (.cond 11 .skip (.exit 0)) (.seq (.block 1 (.seq (.sts [(.chk [] (.c2 (.idxA 14) (.t 8) (.t 10))),
    (.chk [] (.c1 (.ldn 14) (.o2 (.idxA 14) (.t 8) (.t 10)))),
    (.set 13 (.o1 (.ldn 14) (.o2 (.idxA 14) (.t 8) (.t 10)))),
    (.eff [] (some 7) (.alloc 129 #[(.int .i64 0), (str []), (.slice none 0 0), (.int .i64 0), (.int .i64 0), (.int .i64 0), (.int .i64 0), (str []), (.int .i64 0), (.int .i64 0), (.int .i64 0), (str []), (.int .i64 0), (.int .i64 0)]) [] []),
    (.eff [] none (.store 14) [(.t 7), (.t 13)] [])]) (.seq (.sts [(.chk [] (.c1 (.fld 13) (.t 7))),
    (.chk [] (.c1 .ld1 (.o1 (.fld 13) (.t 7)))),
    (.chk [] (.c2 (.bin .add) (.o1 .ld1 (.o1 (.fld 13) (.t 7))) (.t 1))),
    (.chk [] (.c1 (.fld 13) (.t 7))),
    (.set 17 (.o2 (.bin .add) (.o1 .ld1 (.o1 (.fld 13) (.t 7))) (.t 1))),
    (.eff [] none (.store 1) [(.o1 (.fld 13) (.t 7)), (.t 17)] [])]) (.seq (.seq (.sts [(.chk [] (.c1 (.fld 0) (.t 7))),
    (.chk [] (.c1 .ld1 (.o1 (.fld 0) (.t 7)))),
    (.chk [] (.c2 (.bin .eql) (.o1 .ld1 (.o1 (.fld 0) (.t 7))) (.c (.int .i64 3)))),
    (.set 21 (.o2 (.bin .eql) (.o1 .ld1 (.o1 (.fld 0) (.t 7))) (.c (.int .i64 3))))]) (.cond 21 (.seq (.sts [(.chk [] (.c1 (.fld 5) (.t 7))),
    (.chk [] (.c1 (.fld 3) (.o1 (.fld 5) (.t 7)))),
    (.chk [] (.c1 .ld1 (.o1 (.fld 3) (.o1 (.fld 5) (.t 7))))),
    (.chk [] (.c2 (.bin .add) (.o1 .ld1 (.o1 (.fld 3) (.o1 (.fld 5) (.t 7)))) (.t 1))),
    (.chk [] (.c1 (.fld 5) (.t 7))),
    (.chk [] (.c1 (.fld 3) (.o1 (.fld 5) (.t 7)))),
    (.set 26 (.o2 (.bin .add) (.o1 .ld1 (.o1 (.fld 3) (.o1 (.fld 5) (.t 7)))) (.t 1))),
    (.eff [] none (.store 1) [(.o1 (.fld 3) (.o1 (.fld 5) (.t 7))), (.t 26)] [])]) (.sts [(.chk [] (.c1 (.fld 9) (.t 7))),
    (.chk [] (.c1 (.fld 3) (.o1 (.fld 9) (.t 7)))),
    (.chk [] (.c1 .ld1 (.o1 (.fld 3) (.o1 (.fld 9) (.t 7))))),
    (.chk [] (.c2 (.bin .add) (.o1 .ld1 (.o1 (.fld 3) (.o1 (.fld 9) (.t 7)))) (.t 1))),
    (.chk [] (.c1 (.fld 9) (.t 7))),
    (.chk [] (.c1 (.fld 3) (.o1 (.fld 9) (.t 7)))),
    (.set 33 (.o2 (.bin .add) (.o1 .ld1 (.o1 (.fld 3) (.o1 (.fld 9) (.t 7)))) (.t 1))),
    (.eff [] none (.store 1) [(.o1 (.fld 3) (.o1 (.fld 9) (.t 7))), (.t 33)] [])])) (.sts [(.chk [] (.c1 (.fld 1) (.t 7))),
    (.chk [] (.c1 (.ldn 3) (.o1 (.fld 1) (.t 7)))),
    (.set 37 (.o1 (.ldn 3) (.o1 (.fld 1) (.t 7)))),
    (.eff [] (some 39) (.call 39) [(.t 37), (.t 1)] []),
    (.chk [] (.c1 (.fld 1) (.t 7))),
    (.eff [] none (.store 3) [(.o1 (.fld 1) (.t 7)), (.t 39)] [])]))) (.sts [(.chk [] (.c1 (.ldn 14) (.t 7))),
    (.set 42 (.o1 (.ldn 14) (.t 7))),
    (.eff [] (some 43) (.bsl 129 14 1 [(.int .i64 0), (str []), (.slice none 0 0), (.int .i64 0), (.int .i64 0), (.int .i64 0), (.int .i64 0), (str []), (.int .i64 0), (.int .i64 0), (.int .i64 0), (str []), (.int .i64 0), (.int .i64 0)] [0]) [(.t 42)] []),
    (.eff [] (some 44) (.app 129 14 152 [(.int .i64 0), (str []), (.slice none 0 0), (.int .i64 0), (.int .i64 0), (.int .i64 0), (.int .i64 0), (str []), (.int .i64 0), (.int .i64 0), (.int .i64 0), (str []), (.int .i64 0), (.int .i64 0)]) [(.t 5), (.t 43)] []),
    (.set 5 (.t 44))]))))) (.sts [(.chk [] (.c2 (.bin .add) (.t 10) (.c (.int .i64 1)))),
    (.set 45 (.o2 (.bin .add) (.t 10) (.c (.int .i64 1)))),
    (.set 10 (.t 45))]))))
def plShiftBody_S : S :=
  (.seq (.sts [(.set 4 (.c (.slice none 0 0)))]) (.seq (.sts [(.set 5 (.c (.slice none 0 0)))]) (.seq (.seq (.sts [(.set 8 (.t 0)),
    (.chk [] (.c1 .len (.t 8))),
    (.set 9 (.o1 .len (.t 8))),
    (.set 10 (.c (.int .i64 0)))]) (.block 0 (.loop plShiftBody_L1))) (.seq (.sts [(.set 4 (.t 5))]) .ret))))
def plShiftBody_E : Res := [(none, (.t 4))]
theorem plShiftBody_C : Tryd.f38.body.bind (comp Tryd.prog plShiftBody_M Tryd.f38.ntmps) = some plShiftBody_S := by kernel_rfl
theorem plShiftBody_R : resE Tryd.prog plShiftBody_M Tryd.f38.results.toList = some plShiftBody_E := by kernel_rfl
theorem plShiftBody_H (G : Ctr) (hG : GOk Tryd.prog G) (a0 : Value) (a1 : Value) {h : H} {K : Value → H → Prop} {KP : List PanicEntry → H → Prop} (Hw : wpS G plShiftBody_S (retQ plShiftBody_E (callK K KP)) (envOf 0 [a0, a1] env0) h) : HCX Tryd.prog 38 [a0, a1] h K KP :=
  .inl ⟨by kernel_rfl, hc_of mixed hG Tryd.func38 plShiftBody_C plShiftBody_R (of_decide_eq_true (by kernel_rfl)) Hw⟩
end Go.Proofs.YtmnfhmbmifompaaDoor
