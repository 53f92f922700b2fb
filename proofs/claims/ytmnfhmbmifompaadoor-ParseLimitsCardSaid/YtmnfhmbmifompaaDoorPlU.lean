/- The small statements of functions of the program, as the closed computation gives them (written by a program of ours; checked by the kernel below). -/
import Derived.Test.YtmnfhmbmifompaaDoorEvB
import Derived.Test.YtmnfhmbmifompaaDoorProg
import Derived.KernelRfl
import Derived.Test.YtmnfhmbmifompaaDoorPlS
namespace Go.Proofs.YtmnfhmbmifompaaDoor
open Go Go.Ev
def plFaultOf_M : Nat → Bool := fun i => Nat.testBit 135274675 i
def plFaultOf_S : S :=
  (.seq (.sts [(.eff [] (some 4) (.alloc 27 #[(.int .i64 0), (.int .i64 0), (.int .i64 0)]) [] [])]) (.seq (.sts [(.chk [] (.cb 3 [])),
    (.eff [] (some 5) (.alloc 27 #[(.int .i64 0), (.int .i64 0), (.int .i64 0)]) [] []),
    (.eff [] none (.store 3) [(.t 5), (.c (.agg #[(.int .i64 0), (.int .i64 0), (.int .i64 0)]))] [])]) (.seq (.seq (.sts [(.set 7 (.t 0))]) (.block 0 (.seq (.sts [(.chk [] (.c2 (.bin .eql) (.t 7) (.c (.int .i64 0)))),
    (.set 13 (.o2 (.bin .eql) (.t 7) (.c (.int .i64 0))))]) (.cond 13 (.sts [(.eff [] (some 17) (.call 28) [(.t 1)] []),
    (.chk [] (.c1 (.ext 0) (.t 17))),
    (.chk [] (.c1 (.ext 1) (.t 17))),
    (.eff [] none (.store 3) [(.t 5), (.o1 (.ext 1) (.t 17))] [])]) (.seq (.sts [(.chk [] (.c2 (.bin .eql) (.t 7) (.c (.int .i64 1)))),
    (.set 20 (.o2 (.bin .eql) (.t 7) (.c (.int .i64 1))))]) (.cond 20 (.sts [(.eff [] (some 24) (.call 22) [(.t 1)] []),
    (.chk [] (.c1 (.ext 0) (.t 24))),
    (.chk [] (.c1 (.ext 1) (.t 24))),
    (.eff [] none (.store 3) [(.t 5), (.o1 (.ext 1) (.t 24))] [])]) (.seq (.sts [(.chk [] (.c2 (.bin .eql) (.t 7) (.c (.int .i64 2)))),
    (.set 27 (.o2 (.bin .eql) (.t 7) (.c (.int .i64 2))))]) (.cond 27 (.sts [(.eff [] (some 31) (.call 36) [(.t 1)] []),
    (.chk [] (.c1 (.ext 0) (.t 31))),
    (.chk [] (.c1 (.ext 1) (.t 31))),
    (.eff [] none (.store 3) [(.t 5), (.o1 (.ext 1) (.t 31))] [])]) (.sts [(.eff [] (some 10) (.call 19) [(.t 1)] []),
    (.chk [] (.c1 (.ext 0) (.t 10))),
    (.chk [] (.c1 (.ext 1) (.t 10))),
    (.eff [] none (.store 3) [(.t 5), (.o1 (.ext 1) (.t 10))] [])]))))))))) (.seq (.sts [(.chk [] (.c1 (.ldn 3) (.t 5))),
    (.set 34 (.o1 (.ldn 3) (.t 5))),
    (.eff [] none (.store 3) [(.t 4), (.t 34)] [])]) .ret))))
def plFaultOf_E : Res := [((some (.c1 (.ldn 3) (.t 4))), (.o1 (.ldn 3) (.t 4)))]
theorem plFaultOf_C : Tryd.f43.body.bind (comp Tryd.prog plFaultOf_M Tryd.f43.ntmps) = some plFaultOf_S := by kernel_rfl
theorem plFaultOf_R : resE Tryd.prog plFaultOf_M Tryd.f43.results.toList = some plFaultOf_E := by kernel_rfl
theorem plFaultOf_H (G : Ctr) (hG : GOk Tryd.prog G) (a0 : Value) (a1 : Value) {h : H} {K : Value → H → Prop} {KP : List PanicEntry → H → Prop} (Hw : wpS G plFaultOf_S (retQ plFaultOf_E (callK K KP)) (envOf 0 [a0, a1] env0) h) : HCX Tryd.prog 43 [a0, a1] h K KP :=
  .inl ⟨by kernel_rfl, hc_of mixed hG Tryd.func43 plFaultOf_C plFaultOf_R (of_decide_eq_true (by kernel_rfl)) Hw⟩
def plMod_M : Nat → Bool := fun i => Nat.testBit 19 i
def plMod_S : S :=
  (.seq (.sts [(.set 4 (.c (.int .i64 0)))]) (.seq (.sts [(.chk [] (.c2 (.bin .rem) (.t 0) (.t 1))),
    (.chk [] (.c2 (.bin .add) (.o2 (.bin .rem) (.t 0) (.t 1)) (.t 1))),
    (.chk [] (.c2 (.bin .rem) (.o2 (.bin .add) (.o2 (.bin .rem) (.t 0) (.t 1)) (.t 1)) (.t 1))),
    (.set 4 (.o2 (.bin .rem) (.o2 (.bin .add) (.o2 (.bin .rem) (.t 0) (.t 1)) (.t 1)) (.t 1)))]) .ret))
def plMod_E : Res := [(none, (.t 4))]
theorem plMod_C : Tryd.f45.body.bind (comp Tryd.prog plMod_M Tryd.f45.ntmps) = some plMod_S := by kernel_rfl
theorem plMod_R : resE Tryd.prog plMod_M Tryd.f45.results.toList = some plMod_E := by kernel_rfl
theorem plMod_H (G : Ctr) (hG : GOk Tryd.prog G) (a0 : Value) (a1 : Value) {h : H} {K : Value → H → Prop} {KP : List PanicEntry → H → Prop} (Hw : wpS G plMod_S (retQ plMod_E (callK K KP)) (envOf 0 [a0, a1] env0) h) : HCX Tryd.prog 45 [a0, a1] h K KP :=
  .inl ⟨by kernel_rfl, hc_of mixed hG Tryd.func45 plMod_C plMod_R (of_decide_eq_true (by kernel_rfl)) Hw⟩
def plTimes_M : Nat → Bool := fun i => Nat.testBit 16563 i
def plTimes_S : S :=
  (.seq (.sts [(.set 4 (.c (str [])))]) (.seq (.seq (.sts [(.chk [] (.c2 (.bin .leq) (.t 1) (.c (.int .i64 0)))),
    (.set 7 (.o2 (.bin .leq) (.t 1) (.c (.int .i64 0))))]) (.cond 7 (.seq (.sts [(.set 4 (.c (str [])))]) .ret) .skip)) (.seq (.sts [(.chk [] (.c2 (.bin .quo) (.t 1) (.c (.int .i64 2)))),
    (.eff [] (some 11) (.call 47) [(.t 0), (.o2 (.bin .quo) (.t 1) (.c (.int .i64 2)))] []),
    (.set 5 (.t 11))]) (.seq (.seq (.sts [(.chk [] (.c2 (.bin .rem) (.t 1) (.c (.int .i64 2)))),
    (.chk [] (.c2 (.bin .eql) (.o2 (.bin .rem) (.t 1) (.c (.int .i64 2))) (.c (.int .i64 1)))),
    (.set 14 (.o2 (.bin .eql) (.o2 (.bin .rem) (.t 1) (.c (.int .i64 2))) (.c (.int .i64 1))))]) (.cond 14 (.seq (.sts [(.chk [] (.c2 (.bin .add) (.t 5) (.t 5))),
    (.chk [] (.c2 (.bin .add) (.o2 (.bin .add) (.t 5) (.t 5)) (.t 0))),
    (.set 4 (.o2 (.bin .add) (.o2 (.bin .add) (.t 5) (.t 5)) (.t 0)))]) .ret) .skip)) (.seq (.sts [(.chk [] (.c2 (.bin .add) (.t 5) (.t 5))),
    (.set 4 (.o2 (.bin .add) (.t 5) (.t 5)))]) .ret)))))
def plTimes_E : Res := [(none, (.t 4))]
theorem plTimes_C : Tryd.f47.body.bind (comp Tryd.prog plTimes_M Tryd.f47.ntmps) = some plTimes_S := by kernel_rfl
theorem plTimes_R : resE Tryd.prog plTimes_M Tryd.f47.results.toList = some plTimes_E := by kernel_rfl
theorem plTimes_H (G : Ctr) (hG : GOk Tryd.prog G) (a0 : Value) (a1 : Value) {h : H} {K : Value → H → Prop} {KP : List PanicEntry → H → Prop} (Hw : wpS G plTimes_S (retQ plTimes_E (callK K KP)) (envOf 0 [a0, a1] env0) h) : HCX Tryd.prog 47 [a0, a1] h K KP :=
  .inl ⟨by kernel_rfl, hc_of mixed hG Tryd.func47 plTimes_C plTimes_R (of_decide_eq_true (by kernel_rfl)) Hw⟩
end Go.Proofs.YtmnfhmbmifompaaDoor
