/- The small statements of functions of the program, as the closed computation gives them (written by a program of ours; checked by the kernel below). -/
import Derived.Test.YtmnfhmbmifompaaDoorEvB
import Derived.Test.YtmnfhmbmifompaaDoorProg
import Derived.KernelRfl
import Derived.Test.YtmnfhmbmifompaaDoorPlS
namespace Go.Proofs.YtmnfhmbmifompaaDoor
open Go Go.Ev
def ParseLong_M : Nat → Bool := fun i => Nat.testBit 17192460531 i
def ParseLong_L1 : S :=
  (.seq (.sts [(.chk [] (.c2 (.bin .lss) (.t 22) (.c (.int .i64 4)))),
    (.set 23 (.o2 (.bin .lss) (.t 22) (.c (.int .i64 4))))]) (.seq (.cond 23 .skip (.exit 0)) (.seq (.block 1 (.seq (.sts [(.set 6 (.t 22))]) (.seq (.sts [(.eff [] (some 27) (.call 43) [(.t 6), (.t 5)] []),
    (.eff [] (some 7) (.alloc 27 #[(.int .i64 0), (.int .i64 0), (.int .i64 0)]) [] []),
    (.eff [] none (.store 3) [(.t 7), (.t 27)] [])]) (.seq (.sts [(.chk [] (.c1 (.ldn 3) (.t 7))),
    (.chk [] (.cb 3 [(0, (1, (.c (.int .i64 1))))])),
    (.chk [] (.c2 (.eqs false [(.int .i64), (.int .i64), (.int .i64)]) (.o1 (.ldn 3) (.t 7)) (.o2 (.put 0 1) (.c (.agg #[(.int .i64 0), (.int .i64 0), (.int .i64 0)])) (.c (.int .i64 1))))),
    (.chk [] (.c1 .lens (.t 5))),
    (.chk [] (.c2 (.bin .gtr) (.o1 .lens (.t 5)) (.c (.int .i64 65536)))),
    (.chk [] (.c2 (.eqb true) (.o2 (.eqs false [(.int .i64), (.int .i64), (.int .i64)]) (.o1 (.ldn 3) (.t 7)) (.o2 (.put 0 1) (.c (.agg #[(.int .i64 0), (.int .i64 0), (.int .i64 0)])) (.c (.int .i64 1)))) (.o2 (.bin .gtr) (.o1 .lens (.t 5)) (.c (.int .i64 65536))))),
    (.set 34 (.o2 (.eqb true) (.o2 (.eqs false [(.int .i64), (.int .i64), (.int .i64)]) (.o1 (.ldn 3) (.t 7)) (.o2 (.put 0 1) (.c (.agg #[(.int .i64 0), (.int .i64 0), (.int .i64 0)])) (.c (.int .i64 1)))) (.o2 (.bin .gtr) (.o1 .lens (.t 5)) (.c (.int .i64 65536)))))]) (.cond 34 (.seq (.sts [(.set 4 (.c (.bool false)))]) .ret) .skip))))) (.sts [(.chk [] (.c2 (.bin .add) (.t 22) (.c (.int .i64 1)))),
    (.set 35 (.o2 (.bin .add) (.t 22) (.c (.int .i64 1)))),
    (.set 22 (.t 35))]))))
def ParseLong_S : S :=
  (.seq (.sts [(.set 4 (.c (.bool false)))]) (.seq (.sts [(.eff [] (some 9) (.call 45) [(.t 1), (.c (.int .i64 200))] []),
    (.set 1 (.t 9))]) (.seq (.sts [(.set 5 (.t 0))]) (.seq (.seq (.sts [(.chk [] (.c1 .lens (.t 5))),
    (.chk [] (.c2 (.bin .gtr) (.o1 .lens (.t 5)) (.c (.int .i64 100)))),
    (.set 13 (.o2 (.bin .gtr) (.o1 .lens (.t 5)) (.c (.int .i64 100))))]) (.cond 13 (.sts [(.chk [] (.c2 .subHi (.t 5) (.c (.int .i64 100)))),
    (.set 15 (.o2 .subHi (.t 5) (.c (.int .i64 100)))),
    (.set 5 (.t 15))]) .skip)) (.seq (.sts [(.chk [] (.c2 (.bin .add) (.t 5) (.c (str [10])))),
    (.chk [] (.c2 (.bin .add) (.c (.int .i64 65436)) (.t 1))),
    (.eff [] (some 20) (.call 47) [(.c (str [32])), (.o2 (.bin .add) (.c (.int .i64 65436)) (.t 1))] []),
    (.chk [] (.c2 (.bin .add) (.o2 (.bin .add) (.t 5) (.c (str [10]))) (.t 20))),
    (.set 21 (.o2 (.bin .add) (.o2 (.bin .add) (.t 5) (.c (str [10]))) (.t 20))),
    (.set 5 (.t 21))]) (.seq (.seq (.sts [(.set 22 (.c (.int .i64 0)))]) (.block 0 (.loop ParseLong_L1))) (.seq (.sts [(.eff [] (some 36) (.call 29) [] []),
    (.set 4 (.t 36))]) .ret)))))))
def ParseLong_E : Res := [(none, (.t 4))]
theorem ParseLong_C : Tryd.f17.body.bind (comp Tryd.prog ParseLong_M Tryd.f17.ntmps) = some ParseLong_S := by kernel_rfl
theorem ParseLong_R : resE Tryd.prog ParseLong_M Tryd.f17.results.toList = some ParseLong_E := by kernel_rfl
theorem ParseLong_H (G : Ctr) (hG : GOk Tryd.prog G) (a0 : Value) (a1 : Value) {h : H} {K : Value → H → Prop} {KP : List PanicEntry → H → Prop} (Hw : wpS G ParseLong_S (retQ ParseLong_E (callK K KP)) (envOf 0 [a0, a1] env0) h) : HCX Tryd.prog 17 [a0, a1] h K KP :=
  .inl ⟨by kernel_rfl, hc_of mixed hG Tryd.func17 ParseLong_C ParseLong_R (of_decide_eq_true (by kernel_rfl)) Hw⟩
end Go.Proofs.YtmnfhmbmifompaaDoor
