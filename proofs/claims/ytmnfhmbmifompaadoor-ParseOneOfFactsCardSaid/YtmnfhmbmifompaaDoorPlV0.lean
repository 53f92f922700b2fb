/- The small statements of functions of the program, as the closed computation gives them (written by a program of ours; checked by the kernel below). -/
import Derived.Test.YtmnfhmbmifompaaDoorEvB
import Derived.Test.YtmnfhmbmifompaaDoorProg
import Derived.KernelRfl
import Derived.Test.YtmnfhmbmifompaaDoorPlS
namespace Go.Proofs.YtmnfhmbmifompaaDoor
open Go Go.Ev
def plFactIs_M : Nat → Bool := fun i => Nat.testBit 1125899936727103 i
def plFactIs_L1 : S :=
  (.seq (.sts [(.chk [] (.c2 (.bin .lss) (.t 23) (.t 22))),
    (.set 24 (.o2 (.bin .lss) (.t 23) (.t 22)))]) (.seq (.cond 24 .skip (.exit 0)) (.seq (.block 1 (.seq (.sts [(.set 5 (.t 23))]) (.seq (.sts [(.chk [] (.c1 (.fld 1) (.t 2))),
    (.chk [] (.c1 .ld1 (.o1 (.fld 1) (.t 2)))),
    (.chk [] (.c2 (.idxA 3) (.o1 .ld1 (.o1 (.fld 1) (.t 2))) (.t 5))),
    (.chk [] (.c1 (.ldn 3) (.o2 (.idxA 3) (.o1 .ld1 (.o1 (.fld 1) (.t 2))) (.t 5)))),
    (.chk [] (.c1 (.fld 1) (.t 3))),
    (.chk [] (.c1 .ld1 (.o1 (.fld 1) (.t 3)))),
    (.chk [] (.c2 (.idxA 4) (.o1 .ld1 (.o1 (.fld 1) (.t 3))) (.t 5))),
    (.chk [] (.c1 (.fld 0) (.o2 (.idxA 4) (.o1 .ld1 (.o1 (.fld 1) (.t 3))) (.t 5)))),
    (.chk [] (.c1 .ld1 (.o1 (.fld 0) (.o2 (.idxA 4) (.o1 .ld1 (.o1 (.fld 1) (.t 3))) (.t 5))))),
    (.chk [] (.c1 (.fld 1) (.t 3))),
    (.chk [] (.c1 .ld1 (.o1 (.fld 1) (.t 3)))),
    (.chk [] (.c2 (.idxA 4) (.o1 .ld1 (.o1 (.fld 1) (.t 3))) (.t 5))),
    (.chk [] (.c1 (.fld 1) (.o2 (.idxA 4) (.o1 .ld1 (.o1 (.fld 1) (.t 3))) (.t 5)))),
    (.chk [] (.c1 .ld1 (.o1 (.fld 1) (.o2 (.idxA 4) (.o1 .ld1 (.o1 (.fld 1) (.t 3))) (.t 5))))),
    (.chk [] (.c1 (.fld 1) (.t 3))),
    (.chk [] (.c1 .ld1 (.o1 (.fld 1) (.t 3)))),
    (.chk [] (.c2 (.idxA 4) (.o1 .ld1 (.o1 (.fld 1) (.t 3))) (.t 5))),
    (.chk [] (.c1 (.fld 2) (.o2 (.idxA 4) (.o1 .ld1 (.o1 (.fld 1) (.t 3))) (.t 5)))),
    (.chk [] (.c1 .ld1 (.o1 (.fld 2) (.o2 (.idxA 4) (.o1 .ld1 (.o1 (.fld 1) (.t 3))) (.t 5))))),
    (.chk [] (.cb 3 [(0, (1, (.o1 .ld1 (.o1 (.fld 0) (.o2 (.idxA 4) (.o1 .ld1 (.o1 (.fld 1) (.t 3))) (.t 5)))))), (1, (1, (.o1 .ld1 (.o1 (.fld 1) (.o2 (.idxA 4) (.o1 .ld1 (.o1 (.fld 1) (.t 3))) (.t 5)))))), (2, (1, (.o1 .ld1 (.o1 (.fld 2) (.o2 (.idxA 4) (.o1 .ld1 (.o1 (.fld 1) (.t 3))) (.t 5))))))])),
    (.chk [] (.c2 (.eqs true [(.int .i64), (.int .i64), .str]) (.o1 (.ldn 3) (.o2 (.idxA 3) (.o1 .ld1 (.o1 (.fld 1) (.t 2))) (.t 5))) (.o2 (.put 2 1) (.o2 (.put 1 1) (.o2 (.put 0 1) (.c (.agg #[(.int .i64 0), (.int .i64 0), (str [])])) (.o1 .ld1 (.o1 (.fld 0) (.o2 (.idxA 4) (.o1 .ld1 (.o1 (.fld 1) (.t 3))) (.t 5))))) (.o1 .ld1 (.o1 (.fld 1) (.o2 (.idxA 4) (.o1 .ld1 (.o1 (.fld 1) (.t 3))) (.t 5))))) (.o1 .ld1 (.o1 (.fld 2) (.o2 (.idxA 4) (.o1 .ld1 (.o1 (.fld 1) (.t 3))) (.t 5))))))),
    (.set 50 (.o2 (.eqs true [(.int .i64), (.int .i64), .str]) (.o1 (.ldn 3) (.o2 (.idxA 3) (.o1 .ld1 (.o1 (.fld 1) (.t 2))) (.t 5))) (.o2 (.put 2 1) (.o2 (.put 1 1) (.o2 (.put 0 1) (.c (.agg #[(.int .i64 0), (.int .i64 0), (str [])])) (.o1 .ld1 (.o1 (.fld 0) (.o2 (.idxA 4) (.o1 .ld1 (.o1 (.fld 1) (.t 3))) (.t 5))))) (.o1 .ld1 (.o1 (.fld 1) (.o2 (.idxA 4) (.o1 .ld1 (.o1 (.fld 1) (.t 3))) (.t 5))))) (.o1 .ld1 (.o1 (.fld 2) (.o2 (.idxA 4) (.o1 .ld1 (.o1 (.fld 1) (.t 3))) (.t 5)))))))]) (.cond 50 (.seq (.sts [(.set 4 (.c (.bool false)))]) .ret) .skip)))) (.sts [(.chk [] (.c2 (.bin .add) (.t 23) (.c (.int .i64 1)))),
    (.set 51 (.o2 (.bin .add) (.t 23) (.c (.int .i64 1)))),
    (.set 23 (.t 51))]))))
def plFactIs_S : S :=
  (.seq (.sts [(.eff [] (some 2) (.box 24) [(.t 0)] []),
    (.eff [] (some 3) (.box 52) [(.t 1)] []),
    (.set 4 (.c (.bool false)))]) (.seq (.seq (.sts [(.chk [] (.c1 (.fld 0) (.t 2))),
    (.chk [] (.c1 .ld1 (.o1 (.fld 0) (.t 2)))),
    (.chk [] (.c1 (.fld 0) (.t 3))),
    (.chk [] (.c1 .ld1 (.o1 (.fld 0) (.t 3)))),
    (.chk [] (.c2 (.bin .neq) (.o1 .ld1 (.o1 (.fld 0) (.t 2))) (.o1 .ld1 (.o1 (.fld 0) (.t 3))))),
    (.chk [((.o2 (.bin .neq) (.o1 .ld1 (.o1 (.fld 0) (.t 2))) (.o1 .ld1 (.o1 (.fld 0) (.t 3)))), false)] (.c1 (.fld 1) (.t 2))),
    (.chk [((.o2 (.bin .neq) (.o1 .ld1 (.o1 (.fld 0) (.t 2))) (.o1 .ld1 (.o1 (.fld 0) (.t 3)))), false)] (.c1 .ld1 (.o1 (.fld 1) (.t 2)))),
    (.chk [((.o2 (.bin .neq) (.o1 .ld1 (.o1 (.fld 0) (.t 2))) (.o1 .ld1 (.o1 (.fld 0) (.t 3)))), false)] (.c1 .len (.o1 .ld1 (.o1 (.fld 1) (.t 2))))),
    (.chk [((.o2 (.bin .neq) (.o1 .ld1 (.o1 (.fld 0) (.t 2))) (.o1 .ld1 (.o1 (.fld 0) (.t 3)))), false)] (.c1 (.fld 1) (.t 3))),
    (.chk [((.o2 (.bin .neq) (.o1 .ld1 (.o1 (.fld 0) (.t 2))) (.o1 .ld1 (.o1 (.fld 0) (.t 3)))), false)] (.c1 .ld1 (.o1 (.fld 1) (.t 3)))),
    (.chk [((.o2 (.bin .neq) (.o1 .ld1 (.o1 (.fld 0) (.t 2))) (.o1 .ld1 (.o1 (.fld 0) (.t 3)))), false)] (.c1 .len (.o1 .ld1 (.o1 (.fld 1) (.t 3))))),
    (.chk [((.o2 (.bin .neq) (.o1 .ld1 (.o1 (.fld 0) (.t 2))) (.o1 .ld1 (.o1 (.fld 0) (.t 3)))), false)] (.c2 (.bin .neq) (.o1 .len (.o1 .ld1 (.o1 (.fld 1) (.t 2)))) (.o1 .len (.o1 .ld1 (.o1 (.fld 1) (.t 3)))))),
    (.chk [] (.c3 .pick (.o2 (.bin .neq) (.o1 .ld1 (.o1 (.fld 0) (.t 2))) (.o1 .ld1 (.o1 (.fld 0) (.t 3)))) (.c (.bool true)) (.o2 (.bin .neq) (.o1 .len (.o1 .ld1 (.o1 (.fld 1) (.t 2)))) (.o1 .len (.o1 .ld1 (.o1 (.fld 1) (.t 3))))))),
    (.set 19 (.o3 .pick (.o2 (.bin .neq) (.o1 .ld1 (.o1 (.fld 0) (.t 2))) (.o1 .ld1 (.o1 (.fld 0) (.t 3)))) (.c (.bool true)) (.o2 (.bin .neq) (.o1 .len (.o1 .ld1 (.o1 (.fld 1) (.t 2)))) (.o1 .len (.o1 .ld1 (.o1 (.fld 1) (.t 3)))))))]) (.cond 19 (.seq (.sts [(.set 4 (.c (.bool false)))]) .ret) .skip)) (.seq (.seq (.sts [(.chk [] (.c1 (.fld 1) (.t 2))),
    (.chk [] (.c1 .ld1 (.o1 (.fld 1) (.t 2)))),
    (.chk [] (.c1 .len (.o1 .ld1 (.o1 (.fld 1) (.t 2))))),
    (.set 22 (.o1 .len (.o1 .ld1 (.o1 (.fld 1) (.t 2))))),
    (.set 23 (.c (.int .i64 0)))]) (.block 0 (.loop plFactIs_L1))) (.seq (.sts [(.set 4 (.c (.bool true)))]) .ret))))
def plFactIs_E : Res := [(none, (.t 4))]
theorem plFactIs_C : Tryd.f42.body.bind (comp Tryd.prog plFactIs_M Tryd.f42.ntmps) = some plFactIs_S := by kernel_rfl
theorem plFactIs_R : resE Tryd.prog plFactIs_M Tryd.f42.results.toList = some plFactIs_E := by kernel_rfl
theorem plFactIs_H (G : Ctr) (hG : GOk Tryd.prog G) (a0 : Value) (a1 : Value) {h : H} {K : Value → H → Prop} {KP : List PanicEntry → H → Prop} (Hw : wpS G plFactIs_S (retQ plFactIs_E (callK K KP)) (envOf 0 [a0, a1] env0) h) : HCX Tryd.prog 42 [a0, a1] h K KP :=
  .inl ⟨by kernel_rfl, hc_of mixed hG Tryd.func42 plFactIs_C plFactIs_R (of_decide_eq_true (by kernel_rfl)) Hw⟩
end Go.Proofs.YtmnfhmbmifompaaDoor
