/- The small statements of functions of the program, as the closed computation gives them (written by a program of ours; checked by the kernel below). -/
import Derived.Test.YtlenjlidahnklaaDoorEvB
import Derived.Test.YtlenjlidahnklaaDoorProg
import Derived.KernelRfl
import Derived.Test.YtlenjlidahnklaaDoorPsS
namespace Go.Proofs.YtlenjlidahnklaaDoor
open Go Go.Ev
def plSameFact_M : Nat → Bool := fun i => Nat.testBit 68749361215 i
def plSameFact_L1 : S :=
  (.seq (.sts [(.chk [] (.c2 (.bin .lss) (.t 23) (.t 22))),
    (.set 24 (.o2 (.bin .lss) (.t 23) (.t 22)))]) (.seq (.cond 24 .skip (.exit 0)) (.seq (.block 1 (.seq (.sts [(.set 5 (.t 23))]) (.seq (.sts [(.chk [] (.c1 (.fld 1) (.t 2))),
    (.chk [] (.c1 .ld1 (.o1 (.fld 1) (.t 2)))),
    (.chk [] (.c2 (.idxA 3) (.o1 .ld1 (.o1 (.fld 1) (.t 2))) (.t 5))),
    (.chk [] (.c1 (.ldn 3) (.o2 (.idxA 3) (.o1 .ld1 (.o1 (.fld 1) (.t 2))) (.t 5)))),
    (.chk [] (.c1 (.fld 1) (.t 3))),
    (.chk [] (.c1 .ld1 (.o1 (.fld 1) (.t 3)))),
    (.chk [] (.c2 (.idxA 3) (.o1 .ld1 (.o1 (.fld 1) (.t 3))) (.t 5))),
    (.chk [] (.c1 (.ldn 3) (.o2 (.idxA 3) (.o1 .ld1 (.o1 (.fld 1) (.t 3))) (.t 5)))),
    (.chk [] (.c2 (.eqs true [(.int .i64), (.int .i64), .str]) (.o1 (.ldn 3) (.o2 (.idxA 3) (.o1 .ld1 (.o1 (.fld 1) (.t 2))) (.t 5))) (.o1 (.ldn 3) (.o2 (.idxA 3) (.o1 .ld1 (.o1 (.fld 1) (.t 3))) (.t 5))))),
    (.set 36 (.o2 (.eqs true [(.int .i64), (.int .i64), .str]) (.o1 (.ldn 3) (.o2 (.idxA 3) (.o1 .ld1 (.o1 (.fld 1) (.t 2))) (.t 5))) (.o1 (.ldn 3) (.o2 (.idxA 3) (.o1 .ld1 (.o1 (.fld 1) (.t 3))) (.t 5)))))]) (.cond 36 (.seq (.sts [(.set 4 (.c (.bool false)))]) .ret) .skip)))) (.sts [(.chk [] (.c2 (.bin .add) (.t 23) (.c (.int .i64 1)))),
    (.set 37 (.o2 (.bin .add) (.t 23) (.c (.int .i64 1)))),
    (.set 23 (.t 37))]))))
def plSameFact_S : S :=
  (.seq (.sts [(.eff [] (some 2) (.box 32) [(.t 0)] []),
    (.eff [] (some 3) (.box 32) [(.t 1)] []),
    (.set 4 (.c (.bool false)))]) (.seq (.seq (.sts [(.chk [] (.c1 (.fld 0) (.t 2))),
    (.chk [] (.c1 .ld1 (.o1 (.fld 0) (.t 2)))),
    (.chk [] (.c1 (.fld 0) (.t 3))),
    (.chk [] (.c1 .ld1 (.o1 (.fld 0) (.t 3)))),
    (.chk [] (.c2 (.bin .neq) (.o1 .ld1 (.o1 (.fld 0) (.t 2))) (.o1 .ld1 (.o1 (.fld 0) (.t 3))))),
    (.chk [((.o2 (.bin .neq) (.o1 .ld1 (.o1 (.fld 0) (.t 2))) (.o1 .ld1 (.o1 (.fld 0) (.t 3)))), false)] (.c1 (.fld 1) (.t 2))),
    (.chk [((.o2 (.bin .neq) (.o1 .ld1 (.o1 (.fld 0) (.t 2))) (.o1 .ld1 (.o1 (.fld 0) (.t 3)))), false)] (.c1 .ld1 (.o1 (.fld 1) (.t 2)))),
    (.chk [((.o2 (.bin .neq) (.o1 .ld1 (.o1 (.fld 0) (.t 2))) (.o1 .ld1 (.o1 (.fld 0) (.t 3)))), false)] (.c1 .len (.o1 .ld1 (.o1 (.fld 1) (.t 2))))),
    (.chk [((.o2 (.bin .neq) (.o1 .ld1 (.o1 (.fld 0) (.t 2))) (.o1 .ld1 (.o1 (.fld 0) (.t 3)))), false)] (.c1 (.fld 1) (.t 3))),
    (.chk [((.o2 (.bin .neq) (.o1 .ld1 (.o1 (.fld 0) (.t 2))) (.o1 .ld1 (.o1 (.fld 0) (.t 3)))), false)] (.c1 .ld1 (.o1 (.fld 1) (.t 3)))),
    (.chk [((.o2 (.bin .neq) (.o1 .ld1 (.o1 (.fld 0) (.t 2))) (.o1 .ld1 (.o1 (.fld 0) (.t 3)))), false)] (.c1 .len (.o1 .ld1 (.o1 (.fld 1) (.t 3))))),
    (.chk [((.o2 (.bin .neq) (.o1 .ld1 (.o1 (.fld 0) (.t 2))) (.o1 .ld1 (.o1 (.fld 0) (.t 3)))), false)] (.c2 (.bin .neq) (.o1 .len (.o1 .ld1 (.o1 (.fld 1) (.t 2)))) (.o1 .len (.o1 .ld1 (.o1 (.fld 1) (.t 3)))))),
    (.chk [] (.c3 .pick (.o2 (.bin .neq) (.o1 .ld1 (.o1 (.fld 0) (.t 2))) (.o1 .ld1 (.o1 (.fld 0) (.t 3)))) (.c (.bool true)) (.o2 (.bin .neq) (.o1 .len (.o1 .ld1 (.o1 (.fld 1) (.t 2)))) (.o1 .len (.o1 .ld1 (.o1 (.fld 1) (.t 3))))))),
    (.set 19 (.o3 .pick (.o2 (.bin .neq) (.o1 .ld1 (.o1 (.fld 0) (.t 2))) (.o1 .ld1 (.o1 (.fld 0) (.t 3)))) (.c (.bool true)) (.o2 (.bin .neq) (.o1 .len (.o1 .ld1 (.o1 (.fld 1) (.t 2)))) (.o1 .len (.o1 .ld1 (.o1 (.fld 1) (.t 3)))))))]) (.cond 19 (.seq (.sts [(.set 4 (.c (.bool false)))]) .ret) .skip)) (.seq (.seq (.sts [(.chk [] (.c1 (.fld 1) (.t 2))),
    (.chk [] (.c1 .ld1 (.o1 (.fld 1) (.t 2)))),
    (.chk [] (.c1 .len (.o1 .ld1 (.o1 (.fld 1) (.t 2))))),
    (.set 22 (.o1 .len (.o1 .ld1 (.o1 (.fld 1) (.t 2))))),
    (.set 23 (.c (.int .i64 0)))]) (.block 0 (.loop plSameFact_L1))) (.seq (.sts [(.set 4 (.c (.bool true)))]) .ret))))
def plSameFact_E : Res := [(none, (.t 4))]
theorem plSameFact_C : Tryd.f20.body.bind (comp Tryd.prog plSameFact_M Tryd.f20.ntmps) = some plSameFact_S := by kernel_rfl
theorem plSameFact_R : resE Tryd.prog plSameFact_M Tryd.f20.results.toList = some plSameFact_E := by kernel_rfl
theorem plSameFact_H (G : Ctr) (hG : GOk Tryd.prog G) (a0 : Value) (a1 : Value) {h : H} {K : Value → H → Prop} {KP : List PanicEntry → H → Prop} (Hw : wpS G plSameFact_S (retQ plSameFact_E (callK K KP)) (envOf 0 [a0, a1] env0) h) : HCX Tryd.prog 20 [a0, a1] h K KP :=
  .inl ⟨by kernel_rfl, hc_of mixed hG Tryd.func20 plSameFact_C plSameFact_R (of_decide_eq_true (by kernel_rfl)) Hw⟩
def plSameAtom_M : Nat → Bool := fun i => Nat.testBit 8799918227519 i
def plSameAtom_L1 : S :=
  (.seq (.sts [(.chk [] (.c2 (.bin .lss) (.t 30) (.t 29))),
    (.set 31 (.o2 (.bin .lss) (.t 30) (.t 29)))]) (.seq (.cond 31 .skip (.exit 0)) (.seq (.block 1 (.seq (.sts [(.set 5 (.t 30))]) (.seq (.sts [(.chk [] (.c1 (.fld 1) (.t 2))),
    (.chk [] (.c1 .ld1 (.o1 (.fld 1) (.t 2)))),
    (.chk [] (.c2 (.idxA 4) (.o1 .ld1 (.o1 (.fld 1) (.t 2))) (.t 5))),
    (.chk [] (.c1 (.ldn 4) (.o2 (.idxA 4) (.o1 .ld1 (.o1 (.fld 1) (.t 2))) (.t 5)))),
    (.chk [] (.c1 (.fld 1) (.t 3))),
    (.chk [] (.c1 .ld1 (.o1 (.fld 1) (.t 3)))),
    (.chk [] (.c2 (.idxA 4) (.o1 .ld1 (.o1 (.fld 1) (.t 3))) (.t 5))),
    (.chk [] (.c1 (.ldn 4) (.o2 (.idxA 4) (.o1 .ld1 (.o1 (.fld 1) (.t 3))) (.t 5)))),
    (.chk [] (.c2 (.eqs true [(.int .i64), (.int .i64), .str, (.int .i64)]) (.o1 (.ldn 4) (.o2 (.idxA 4) (.o1 .ld1 (.o1 (.fld 1) (.t 2))) (.t 5))) (.o1 (.ldn 4) (.o2 (.idxA 4) (.o1 .ld1 (.o1 (.fld 1) (.t 3))) (.t 5))))),
    (.set 43 (.o2 (.eqs true [(.int .i64), (.int .i64), .str, (.int .i64)]) (.o1 (.ldn 4) (.o2 (.idxA 4) (.o1 .ld1 (.o1 (.fld 1) (.t 2))) (.t 5))) (.o1 (.ldn 4) (.o2 (.idxA 4) (.o1 .ld1 (.o1 (.fld 1) (.t 3))) (.t 5)))))]) (.cond 43 (.seq (.sts [(.set 4 (.c (.bool false)))]) .ret) .skip)))) (.sts [(.chk [] (.c2 (.bin .add) (.t 30) (.c (.int .i64 1)))),
    (.set 44 (.o2 (.bin .add) (.t 30) (.c (.int .i64 1)))),
    (.set 30 (.t 44))]))))
def plSameAtom_S : S :=
  (.seq (.sts [(.eff [] (some 2) (.box 60) [(.t 0)] []),
    (.eff [] (some 3) (.box 60) [(.t 1)] []),
    (.set 4 (.c (.bool false)))]) (.seq (.seq (.sts [(.chk [] (.c1 (.fld 0) (.t 2))),
    (.chk [] (.c1 .ld1 (.o1 (.fld 0) (.t 2)))),
    (.chk [] (.c1 (.fld 0) (.t 3))),
    (.chk [] (.c1 .ld1 (.o1 (.fld 0) (.t 3)))),
    (.chk [] (.c2 (.bin .neq) (.o1 .ld1 (.o1 (.fld 0) (.t 2))) (.o1 .ld1 (.o1 (.fld 0) (.t 3))))),
    (.chk [((.o2 (.bin .neq) (.o1 .ld1 (.o1 (.fld 0) (.t 2))) (.o1 .ld1 (.o1 (.fld 0) (.t 3)))), false)] (.c1 (.fld 2) (.t 2))),
    (.chk [((.o2 (.bin .neq) (.o1 .ld1 (.o1 (.fld 0) (.t 2))) (.o1 .ld1 (.o1 (.fld 0) (.t 3)))), false)] (.c1 .ld1 (.o1 (.fld 2) (.t 2)))),
    (.chk [((.o2 (.bin .neq) (.o1 .ld1 (.o1 (.fld 0) (.t 2))) (.o1 .ld1 (.o1 (.fld 0) (.t 3)))), false)] (.c1 (.fld 2) (.t 3))),
    (.chk [((.o2 (.bin .neq) (.o1 .ld1 (.o1 (.fld 0) (.t 2))) (.o1 .ld1 (.o1 (.fld 0) (.t 3)))), false)] (.c1 .ld1 (.o1 (.fld 2) (.t 3)))),
    (.chk [((.o2 (.bin .neq) (.o1 .ld1 (.o1 (.fld 0) (.t 2))) (.o1 .ld1 (.o1 (.fld 0) (.t 3)))), false)] (.c2 (.bin .neq) (.o1 .ld1 (.o1 (.fld 2) (.t 2))) (.o1 .ld1 (.o1 (.fld 2) (.t 3))))),
    (.chk [] (.c3 .pick (.o2 (.bin .neq) (.o1 .ld1 (.o1 (.fld 0) (.t 2))) (.o1 .ld1 (.o1 (.fld 0) (.t 3)))) (.c (.bool true)) (.o2 (.bin .neq) (.o1 .ld1 (.o1 (.fld 2) (.t 2))) (.o1 .ld1 (.o1 (.fld 2) (.t 3)))))),
    (.chk [((.o3 .pick (.o2 (.bin .neq) (.o1 .ld1 (.o1 (.fld 0) (.t 2))) (.o1 .ld1 (.o1 (.fld 0) (.t 3)))) (.c (.bool true)) (.o2 (.bin .neq) (.o1 .ld1 (.o1 (.fld 2) (.t 2))) (.o1 .ld1 (.o1 (.fld 2) (.t 3))))), false)] (.c1 (.fld 1) (.t 2))),
    (.chk [((.o3 .pick (.o2 (.bin .neq) (.o1 .ld1 (.o1 (.fld 0) (.t 2))) (.o1 .ld1 (.o1 (.fld 0) (.t 3)))) (.c (.bool true)) (.o2 (.bin .neq) (.o1 .ld1 (.o1 (.fld 2) (.t 2))) (.o1 .ld1 (.o1 (.fld 2) (.t 3))))), false)] (.c1 .ld1 (.o1 (.fld 1) (.t 2)))),
    (.chk [((.o3 .pick (.o2 (.bin .neq) (.o1 .ld1 (.o1 (.fld 0) (.t 2))) (.o1 .ld1 (.o1 (.fld 0) (.t 3)))) (.c (.bool true)) (.o2 (.bin .neq) (.o1 .ld1 (.o1 (.fld 2) (.t 2))) (.o1 .ld1 (.o1 (.fld 2) (.t 3))))), false)] (.c1 .len (.o1 .ld1 (.o1 (.fld 1) (.t 2))))),
    (.chk [((.o3 .pick (.o2 (.bin .neq) (.o1 .ld1 (.o1 (.fld 0) (.t 2))) (.o1 .ld1 (.o1 (.fld 0) (.t 3)))) (.c (.bool true)) (.o2 (.bin .neq) (.o1 .ld1 (.o1 (.fld 2) (.t 2))) (.o1 .ld1 (.o1 (.fld 2) (.t 3))))), false)] (.c1 (.fld 1) (.t 3))),
    (.chk [((.o3 .pick (.o2 (.bin .neq) (.o1 .ld1 (.o1 (.fld 0) (.t 2))) (.o1 .ld1 (.o1 (.fld 0) (.t 3)))) (.c (.bool true)) (.o2 (.bin .neq) (.o1 .ld1 (.o1 (.fld 2) (.t 2))) (.o1 .ld1 (.o1 (.fld 2) (.t 3))))), false)] (.c1 .ld1 (.o1 (.fld 1) (.t 3)))),
    (.chk [((.o3 .pick (.o2 (.bin .neq) (.o1 .ld1 (.o1 (.fld 0) (.t 2))) (.o1 .ld1 (.o1 (.fld 0) (.t 3)))) (.c (.bool true)) (.o2 (.bin .neq) (.o1 .ld1 (.o1 (.fld 2) (.t 2))) (.o1 .ld1 (.o1 (.fld 2) (.t 3))))), false)] (.c1 .len (.o1 .ld1 (.o1 (.fld 1) (.t 3))))),
    (.chk [((.o3 .pick (.o2 (.bin .neq) (.o1 .ld1 (.o1 (.fld 0) (.t 2))) (.o1 .ld1 (.o1 (.fld 0) (.t 3)))) (.c (.bool true)) (.o2 (.bin .neq) (.o1 .ld1 (.o1 (.fld 2) (.t 2))) (.o1 .ld1 (.o1 (.fld 2) (.t 3))))), false)] (.c2 (.bin .neq) (.o1 .len (.o1 .ld1 (.o1 (.fld 1) (.t 2)))) (.o1 .len (.o1 .ld1 (.o1 (.fld 1) (.t 3)))))),
    (.chk [] (.c3 .pick (.o3 .pick (.o2 (.bin .neq) (.o1 .ld1 (.o1 (.fld 0) (.t 2))) (.o1 .ld1 (.o1 (.fld 0) (.t 3)))) (.c (.bool true)) (.o2 (.bin .neq) (.o1 .ld1 (.o1 (.fld 2) (.t 2))) (.o1 .ld1 (.o1 (.fld 2) (.t 3))))) (.c (.bool true)) (.o2 (.bin .neq) (.o1 .len (.o1 .ld1 (.o1 (.fld 1) (.t 2)))) (.o1 .len (.o1 .ld1 (.o1 (.fld 1) (.t 3))))))),
    (.set 26 (.o3 .pick (.o3 .pick (.o2 (.bin .neq) (.o1 .ld1 (.o1 (.fld 0) (.t 2))) (.o1 .ld1 (.o1 (.fld 0) (.t 3)))) (.c (.bool true)) (.o2 (.bin .neq) (.o1 .ld1 (.o1 (.fld 2) (.t 2))) (.o1 .ld1 (.o1 (.fld 2) (.t 3))))) (.c (.bool true)) (.o2 (.bin .neq) (.o1 .len (.o1 .ld1 (.o1 (.fld 1) (.t 2)))) (.o1 .len (.o1 .ld1 (.o1 (.fld 1) (.t 3)))))))]) (.cond 26 (.seq (.sts [(.set 4 (.c (.bool false)))]) .ret) .skip)) (.seq (.seq (.sts [(.chk [] (.c1 (.fld 1) (.t 2))),
    (.chk [] (.c1 .ld1 (.o1 (.fld 1) (.t 2)))),
    (.chk [] (.c1 .len (.o1 .ld1 (.o1 (.fld 1) (.t 2))))),
    (.set 29 (.o1 .len (.o1 .ld1 (.o1 (.fld 1) (.t 2))))),
    (.set 30 (.c (.int .i64 0)))]) (.block 0 (.loop plSameAtom_L1))) (.seq (.sts [(.set 4 (.c (.bool true)))]) .ret))))
def plSameAtom_E : Res := [(none, (.t 4))]
theorem plSameAtom_C : Tryd.f36.body.bind (comp Tryd.prog plSameAtom_M Tryd.f36.ntmps) = some plSameAtom_S := by kernel_rfl
theorem plSameAtom_R : resE Tryd.prog plSameAtom_M Tryd.f36.results.toList = some plSameAtom_E := by kernel_rfl
theorem plSameAtom_H (G : Ctr) (hG : GOk Tryd.prog G) (a0 : Value) (a1 : Value) {h : H} {K : Value → H → Prop} {KP : List PanicEntry → H → Prop} (Hw : wpS G plSameAtom_S (retQ plSameAtom_E (callK K KP)) (envOf 0 [a0, a1] env0) h) : HCX Tryd.prog 36 [a0, a1] h K KP :=
  .inl ⟨by kernel_rfl, hc_of mixed hG Tryd.func36 plSameAtom_C plSameAtom_R (of_decide_eq_true (by kernel_rfl)) Hw⟩
def plSameAtoms_M : Nat → Bool := fun i => Nat.testBit 33584179 i
def plSameAtoms_L1 : S :=
  (.seq (.sts [(.chk [] (.c2 (.bin .lss) (.t 13) (.t 12))),
    (.set 14 (.o2 (.bin .lss) (.t 13) (.t 12)))]) (.seq (.cond 14 .skip (.exit 0)) (.seq (.block 1 (.seq (.sts [(.set 5 (.t 13))]) (.seq (.sts [(.chk [] (.c2 (.idxA 3) (.t 0) (.t 5))),
    (.chk [] (.c1 (.ldn 3) (.o2 (.idxA 3) (.t 0) (.t 5)))),
    (.chk [] (.c2 (.idxA 3) (.t 1) (.t 5))),
    (.chk [] (.c1 (.ldn 3) (.o2 (.idxA 3) (.t 1) (.t 5)))),
    (.set 23 (.o1 (.ldn 3) (.o2 (.idxA 3) (.t 1) (.t 5)))),
    (.set 19 (.o1 (.ldn 3) (.o2 (.idxA 3) (.t 0) (.t 5)))),
    (.eff [] (some 24) (.call 36) [(.t 19), (.t 23)] []),
    (.chk [] (.c1 .not (.t 24))),
    (.set 25 (.o1 .not (.t 24)))]) (.cond 25 (.seq (.sts [(.set 4 (.c (.bool false)))]) .ret) .skip)))) (.sts [(.chk [] (.c2 (.bin .add) (.t 13) (.c (.int .i64 1)))),
    (.set 26 (.o2 (.bin .add) (.t 13) (.c (.int .i64 1)))),
    (.set 13 (.t 26))]))))
def plSameAtoms_S : S :=
  (.seq (.sts [(.set 4 (.c (.bool false)))]) (.seq (.seq (.sts [(.chk [] (.c1 .len (.t 0))),
    (.chk [] (.c1 .len (.t 1))),
    (.chk [] (.c2 (.bin .neq) (.o1 .len (.t 0)) (.o1 .len (.t 1)))),
    (.set 10 (.o2 (.bin .neq) (.o1 .len (.t 0)) (.o1 .len (.t 1))))]) (.cond 10 (.seq (.sts [(.set 4 (.c (.bool false)))]) .ret) .skip)) (.seq (.seq (.sts [(.chk [] (.c1 .len (.t 0))),
    (.set 12 (.o1 .len (.t 0))),
    (.set 13 (.c (.int .i64 0)))]) (.block 0 (.loop plSameAtoms_L1))) (.seq (.sts [(.set 4 (.c (.bool true)))]) .ret))))
def plSameAtoms_E : Res := [(none, (.t 4))]
theorem plSameAtoms_C : Tryd.f19.body.bind (comp Tryd.prog plSameAtoms_M Tryd.f19.ntmps) = some plSameAtoms_S := by kernel_rfl
theorem plSameAtoms_R : resE Tryd.prog plSameAtoms_M Tryd.f19.results.toList = some plSameAtoms_E := by kernel_rfl
theorem plSameAtoms_H (G : Ctr) (hG : GOk Tryd.prog G) (a0 : Value) (a1 : Value) {h : H} {K : Value → H → Prop} {KP : List PanicEntry → H → Prop} (Hw : wpS G plSameAtoms_S (retQ plSameAtoms_E (callK K KP)) (envOf 0 [a0, a1] env0) h) : HCX Tryd.prog 19 [a0, a1] h K KP :=
  .inl ⟨by kernel_rfl, hc_of mixed hG Tryd.func19 plSameAtoms_C plSameAtoms_R (of_decide_eq_true (by kernel_rfl)) Hw⟩
def plSameBody_M : Nat → Bool := fun i => Nat.testBit 18734974449861382387 i
def plSameBody_L1 : S :=
  (.seq (.sts [(.chk [] (.c2 (.bin .lss) (.t 15) (.t 14))),
    (.set 16 (.o2 (.bin .lss) (.t 15) (.t 14)))]) (.seq (.cond 16 .skip (.exit 0)) (.seq (.block 1 (.seq (.sts [(.set 5 (.t 15))]) (.seq (.join (.seq (.sts [(.chk [] (.c2 (.idxA 14) (.t 0) (.t 5)))]) (.seq (.sts [(.chk [] (.c1 (.ldn 14) (.o2 (.idxA 14) (.t 0) (.t 5))))]) (.seq (.sts [(.chk [] (.c2 (.idxA 14) (.t 1) (.t 5)))]) (.seq (.sts [(.chk [] (.c1 (.ldn 14) (.o2 (.idxA 14) (.t 1) (.t 5))))]) (.both (.sts [(.set 25 (.o1 (.ldn 14) (.o2 (.idxA 14) (.t 1) (.t 5)))),
    (.set 21 (.o1 (.ldn 14) (.o2 (.idxA 14) (.t 0) (.t 5)))),
    (.eff [] (some 6) (.alloc 74 #[(.int .i64 0), (str []), (.slice none 0 0), (.int .i64 0), (.int .i64 0), (.int .i64 0), (.int .i64 0), (str []), (.int .i64 0), (.int .i64 0), (.int .i64 0), (str []), (.int .i64 0), (.int .i64 0)]) [] [([], ((.o2 (.idxA 14) (.t 1) (.t 5)), (some 14))), ([], ((.o2 (.idxA 14) (.t 0) (.t 5)), (some 14)))]),
    (.eff [] (some 7) (.alloc 74 #[(.int .i64 0), (str []), (.slice none 0 0), (.int .i64 0), (.int .i64 0), (.int .i64 0), (.int .i64 0), (str []), (.int .i64 0), (.int .i64 0), (.int .i64 0), (str []), (.int .i64 0), (.int .i64 0)]) [] [([], ((.o2 (.idxA 14) (.t 1) (.t 5)), (some 14))), ([], ((.o2 (.idxA 14) (.t 0) (.t 5)), (some 14)))]),
    (.eff [] none (.store 14) [(.t 6), (.t 21)] [([], ((.o2 (.idxA 14) (.t 1) (.t 5)), (some 14)))]),
    (.eff [] none (.store 14) [(.t 7), (.t 25)] [])]) (.sts [(.set 25 (.o1 (.ldn 14) (.o2 (.idxA 14) (.t 1) (.t 5)))),
    (.set 21 (.o1 (.ldn 14) (.o2 (.idxA 14) (.t 0) (.t 5)))),
    (.eff [] (some 7) (.alloc 74 #[(.int .i64 0), (str []), (.slice none 0 0), (.int .i64 0), (.int .i64 0), (.int .i64 0), (.int .i64 0), (str []), (.int .i64 0), (.int .i64 0), (.int .i64 0), (str []), (.int .i64 0), (.int .i64 0)]) [] [([], ((.o2 (.idxA 14) (.t 1) (.t 5)), (some 14))), ([], ((.o2 (.idxA 14) (.t 0) (.t 5)), (some 14)))]),
    (.eff [] (some 6) (.alloc 74 #[(.int .i64 0), (str []), (.slice none 0 0), (.int .i64 0), (.int .i64 0), (.int .i64 0), (.int .i64 0), (str []), (.int .i64 0), (.int .i64 0), (.int .i64 0), (str []), (.int .i64 0), (.int .i64 0)]) [] [([], ((.o2 (.idxA 14) (.t 1) (.t 5)), (some 14))), ([], ((.o2 (.idxA 14) (.t 0) (.t 5)), (some 14)))]),
    (.eff [] none (.store 14) [(.t 6), (.t 21)] [([], ((.o2 (.idxA 14) (.t 1) (.t 5)), (some 14)))]),
    (.eff [] none (.store 14) [(.t 7), (.t 25)] [])]))))))) (.seq (.seq (.sts [(.chk [] (.c1 (.fld 0) (.t 6))),
    (.chk [] (.c1 .ld1 (.o1 (.fld 0) (.t 6)))),
    (.chk [] (.c1 (.fld 0) (.t 7))),
    (.chk [] (.c1 .ld1 (.o1 (.fld 0) (.t 7)))),
    (.chk [] (.c2 (.bin .neq) (.o1 .ld1 (.o1 (.fld 0) (.t 6))) (.o1 .ld1 (.o1 (.fld 0) (.t 7))))),
    (.chk [((.o2 (.bin .neq) (.o1 .ld1 (.o1 (.fld 0) (.t 6))) (.o1 .ld1 (.o1 (.fld 0) (.t 7)))), false)] (.c1 (.fld 4) (.t 6))),
    (.chk [((.o2 (.bin .neq) (.o1 .ld1 (.o1 (.fld 0) (.t 6))) (.o1 .ld1 (.o1 (.fld 0) (.t 7)))), false)] (.c1 .ld1 (.o1 (.fld 4) (.t 6)))),
    (.chk [((.o2 (.bin .neq) (.o1 .ld1 (.o1 (.fld 0) (.t 6))) (.o1 .ld1 (.o1 (.fld 0) (.t 7)))), false)] (.c1 (.fld 4) (.t 7))),
    (.chk [((.o2 (.bin .neq) (.o1 .ld1 (.o1 (.fld 0) (.t 6))) (.o1 .ld1 (.o1 (.fld 0) (.t 7)))), false)] (.c1 .ld1 (.o1 (.fld 4) (.t 7)))),
    (.chk [((.o2 (.bin .neq) (.o1 .ld1 (.o1 (.fld 0) (.t 6))) (.o1 .ld1 (.o1 (.fld 0) (.t 7)))), false)] (.c2 (.bin .neq) (.o1 .ld1 (.o1 (.fld 4) (.t 6))) (.o1 .ld1 (.o1 (.fld 4) (.t 7))))),
    (.chk [] (.c3 .pick (.o2 (.bin .neq) (.o1 .ld1 (.o1 (.fld 0) (.t 6))) (.o1 .ld1 (.o1 (.fld 0) (.t 7)))) (.c (.bool true)) (.o2 (.bin .neq) (.o1 .ld1 (.o1 (.fld 4) (.t 6))) (.o1 .ld1 (.o1 (.fld 4) (.t 7)))))),
    (.chk [((.o3 .pick (.o2 (.bin .neq) (.o1 .ld1 (.o1 (.fld 0) (.t 6))) (.o1 .ld1 (.o1 (.fld 0) (.t 7)))) (.c (.bool true)) (.o2 (.bin .neq) (.o1 .ld1 (.o1 (.fld 4) (.t 6))) (.o1 .ld1 (.o1 (.fld 4) (.t 7))))), false)] (.c1 (.fld 13) (.t 6))),
    (.chk [((.o3 .pick (.o2 (.bin .neq) (.o1 .ld1 (.o1 (.fld 0) (.t 6))) (.o1 .ld1 (.o1 (.fld 0) (.t 7)))) (.c (.bool true)) (.o2 (.bin .neq) (.o1 .ld1 (.o1 (.fld 4) (.t 6))) (.o1 .ld1 (.o1 (.fld 4) (.t 7))))), false)] (.c1 .ld1 (.o1 (.fld 13) (.t 6)))),
    (.chk [((.o3 .pick (.o2 (.bin .neq) (.o1 .ld1 (.o1 (.fld 0) (.t 6))) (.o1 .ld1 (.o1 (.fld 0) (.t 7)))) (.c (.bool true)) (.o2 (.bin .neq) (.o1 .ld1 (.o1 (.fld 4) (.t 6))) (.o1 .ld1 (.o1 (.fld 4) (.t 7))))), false)] (.c1 (.fld 13) (.t 7))),
    (.chk [((.o3 .pick (.o2 (.bin .neq) (.o1 .ld1 (.o1 (.fld 0) (.t 6))) (.o1 .ld1 (.o1 (.fld 0) (.t 7)))) (.c (.bool true)) (.o2 (.bin .neq) (.o1 .ld1 (.o1 (.fld 4) (.t 6))) (.o1 .ld1 (.o1 (.fld 4) (.t 7))))), false)] (.c1 .ld1 (.o1 (.fld 13) (.t 7)))),
    (.chk [((.o3 .pick (.o2 (.bin .neq) (.o1 .ld1 (.o1 (.fld 0) (.t 6))) (.o1 .ld1 (.o1 (.fld 0) (.t 7)))) (.c (.bool true)) (.o2 (.bin .neq) (.o1 .ld1 (.o1 (.fld 4) (.t 6))) (.o1 .ld1 (.o1 (.fld 4) (.t 7))))), false)] (.c2 (.bin .neq) (.o1 .ld1 (.o1 (.fld 13) (.t 6))) (.o1 .ld1 (.o1 (.fld 13) (.t 7))))),
    (.chk [] (.c3 .pick (.o3 .pick (.o2 (.bin .neq) (.o1 .ld1 (.o1 (.fld 0) (.t 6))) (.o1 .ld1 (.o1 (.fld 0) (.t 7)))) (.c (.bool true)) (.o2 (.bin .neq) (.o1 .ld1 (.o1 (.fld 4) (.t 6))) (.o1 .ld1 (.o1 (.fld 4) (.t 7))))) (.c (.bool true)) (.o2 (.bin .neq) (.o1 .ld1 (.o1 (.fld 13) (.t 6))) (.o1 .ld1 (.o1 (.fld 13) (.t 7)))))),
    (.chk [((.o3 .pick (.o3 .pick (.o2 (.bin .neq) (.o1 .ld1 (.o1 (.fld 0) (.t 6))) (.o1 .ld1 (.o1 (.fld 0) (.t 7)))) (.c (.bool true)) (.o2 (.bin .neq) (.o1 .ld1 (.o1 (.fld 4) (.t 6))) (.o1 .ld1 (.o1 (.fld 4) (.t 7))))) (.c (.bool true)) (.o2 (.bin .neq) (.o1 .ld1 (.o1 (.fld 13) (.t 6))) (.o1 .ld1 (.o1 (.fld 13) (.t 7))))), false)] (.c1 (.fld 5) (.t 6))),
    (.chk [((.o3 .pick (.o3 .pick (.o2 (.bin .neq) (.o1 .ld1 (.o1 (.fld 0) (.t 6))) (.o1 .ld1 (.o1 (.fld 0) (.t 7)))) (.c (.bool true)) (.o2 (.bin .neq) (.o1 .ld1 (.o1 (.fld 4) (.t 6))) (.o1 .ld1 (.o1 (.fld 4) (.t 7))))) (.c (.bool true)) (.o2 (.bin .neq) (.o1 .ld1 (.o1 (.fld 13) (.t 6))) (.o1 .ld1 (.o1 (.fld 13) (.t 7))))), false)] (.c1 (.ldn 4) (.o1 (.fld 5) (.t 6)))),
    (.chk [((.o3 .pick (.o3 .pick (.o2 (.bin .neq) (.o1 .ld1 (.o1 (.fld 0) (.t 6))) (.o1 .ld1 (.o1 (.fld 0) (.t 7)))) (.c (.bool true)) (.o2 (.bin .neq) (.o1 .ld1 (.o1 (.fld 4) (.t 6))) (.o1 .ld1 (.o1 (.fld 4) (.t 7))))) (.c (.bool true)) (.o2 (.bin .neq) (.o1 .ld1 (.o1 (.fld 13) (.t 6))) (.o1 .ld1 (.o1 (.fld 13) (.t 7))))), false)] (.c1 (.fld 5) (.t 7))),
    (.chk [((.o3 .pick (.o3 .pick (.o2 (.bin .neq) (.o1 .ld1 (.o1 (.fld 0) (.t 6))) (.o1 .ld1 (.o1 (.fld 0) (.t 7)))) (.c (.bool true)) (.o2 (.bin .neq) (.o1 .ld1 (.o1 (.fld 4) (.t 6))) (.o1 .ld1 (.o1 (.fld 4) (.t 7))))) (.c (.bool true)) (.o2 (.bin .neq) (.o1 .ld1 (.o1 (.fld 13) (.t 6))) (.o1 .ld1 (.o1 (.fld 13) (.t 7))))), false)] (.c1 (.ldn 4) (.o1 (.fld 5) (.t 7)))),
    (.chk [((.o3 .pick (.o3 .pick (.o2 (.bin .neq) (.o1 .ld1 (.o1 (.fld 0) (.t 6))) (.o1 .ld1 (.o1 (.fld 0) (.t 7)))) (.c (.bool true)) (.o2 (.bin .neq) (.o1 .ld1 (.o1 (.fld 4) (.t 6))) (.o1 .ld1 (.o1 (.fld 4) (.t 7))))) (.c (.bool true)) (.o2 (.bin .neq) (.o1 .ld1 (.o1 (.fld 13) (.t 6))) (.o1 .ld1 (.o1 (.fld 13) (.t 7))))), false)] (.c2 (.eqs true [(.int .i64), (.int .i64), .str, (.int .i64)]) (.o1 (.ldn 4) (.o1 (.fld 5) (.t 6))) (.o1 (.ldn 4) (.o1 (.fld 5) (.t 7))))),
    (.chk [] (.c3 .pick (.o3 .pick (.o3 .pick (.o2 (.bin .neq) (.o1 .ld1 (.o1 (.fld 0) (.t 6))) (.o1 .ld1 (.o1 (.fld 0) (.t 7)))) (.c (.bool true)) (.o2 (.bin .neq) (.o1 .ld1 (.o1 (.fld 4) (.t 6))) (.o1 .ld1 (.o1 (.fld 4) (.t 7))))) (.c (.bool true)) (.o2 (.bin .neq) (.o1 .ld1 (.o1 (.fld 13) (.t 6))) (.o1 .ld1 (.o1 (.fld 13) (.t 7))))) (.c (.bool true)) (.o2 (.eqs true [(.int .i64), (.int .i64), .str, (.int .i64)]) (.o1 (.ldn 4) (.o1 (.fld 5) (.t 6))) (.o1 (.ldn 4) (.o1 (.fld 5) (.t 7)))))),
    (.chk [((.o3 .pick (.o3 .pick (.o3 .pick (.o2 (.bin .neq) (.o1 .ld1 (.o1 (.fld 0) (.t 6))) (.o1 .ld1 (.o1 (.fld 0) (.t 7)))) (.c (.bool true)) (.o2 (.bin .neq) (.o1 .ld1 (.o1 (.fld 4) (.t 6))) (.o1 .ld1 (.o1 (.fld 4) (.t 7))))) (.c (.bool true)) (.o2 (.bin .neq) (.o1 .ld1 (.o1 (.fld 13) (.t 6))) (.o1 .ld1 (.o1 (.fld 13) (.t 7))))) (.c (.bool true)) (.o2 (.eqs true [(.int .i64), (.int .i64), .str, (.int .i64)]) (.o1 (.ldn 4) (.o1 (.fld 5) (.t 6))) (.o1 (.ldn 4) (.o1 (.fld 5) (.t 7))))), false)] (.c1 (.fld 9) (.t 6))),
    (.chk [((.o3 .pick (.o3 .pick (.o3 .pick (.o2 (.bin .neq) (.o1 .ld1 (.o1 (.fld 0) (.t 6))) (.o1 .ld1 (.o1 (.fld 0) (.t 7)))) (.c (.bool true)) (.o2 (.bin .neq) (.o1 .ld1 (.o1 (.fld 4) (.t 6))) (.o1 .ld1 (.o1 (.fld 4) (.t 7))))) (.c (.bool true)) (.o2 (.bin .neq) (.o1 .ld1 (.o1 (.fld 13) (.t 6))) (.o1 .ld1 (.o1 (.fld 13) (.t 7))))) (.c (.bool true)) (.o2 (.eqs true [(.int .i64), (.int .i64), .str, (.int .i64)]) (.o1 (.ldn 4) (.o1 (.fld 5) (.t 6))) (.o1 (.ldn 4) (.o1 (.fld 5) (.t 7))))), false)] (.c1 (.ldn 4) (.o1 (.fld 9) (.t 6)))),
    (.chk [((.o3 .pick (.o3 .pick (.o3 .pick (.o2 (.bin .neq) (.o1 .ld1 (.o1 (.fld 0) (.t 6))) (.o1 .ld1 (.o1 (.fld 0) (.t 7)))) (.c (.bool true)) (.o2 (.bin .neq) (.o1 .ld1 (.o1 (.fld 4) (.t 6))) (.o1 .ld1 (.o1 (.fld 4) (.t 7))))) (.c (.bool true)) (.o2 (.bin .neq) (.o1 .ld1 (.o1 (.fld 13) (.t 6))) (.o1 .ld1 (.o1 (.fld 13) (.t 7))))) (.c (.bool true)) (.o2 (.eqs true [(.int .i64), (.int .i64), .str, (.int .i64)]) (.o1 (.ldn 4) (.o1 (.fld 5) (.t 6))) (.o1 (.ldn 4) (.o1 (.fld 5) (.t 7))))), false)] (.c1 (.fld 9) (.t 7))),
    (.chk [((.o3 .pick (.o3 .pick (.o3 .pick (.o2 (.bin .neq) (.o1 .ld1 (.o1 (.fld 0) (.t 6))) (.o1 .ld1 (.o1 (.fld 0) (.t 7)))) (.c (.bool true)) (.o2 (.bin .neq) (.o1 .ld1 (.o1 (.fld 4) (.t 6))) (.o1 .ld1 (.o1 (.fld 4) (.t 7))))) (.c (.bool true)) (.o2 (.bin .neq) (.o1 .ld1 (.o1 (.fld 13) (.t 6))) (.o1 .ld1 (.o1 (.fld 13) (.t 7))))) (.c (.bool true)) (.o2 (.eqs true [(.int .i64), (.int .i64), .str, (.int .i64)]) (.o1 (.ldn 4) (.o1 (.fld 5) (.t 6))) (.o1 (.ldn 4) (.o1 (.fld 5) (.t 7))))), false)] (.c1 (.ldn 4) (.o1 (.fld 9) (.t 7)))),
    (.chk [((.o3 .pick (.o3 .pick (.o3 .pick (.o2 (.bin .neq) (.o1 .ld1 (.o1 (.fld 0) (.t 6))) (.o1 .ld1 (.o1 (.fld 0) (.t 7)))) (.c (.bool true)) (.o2 (.bin .neq) (.o1 .ld1 (.o1 (.fld 4) (.t 6))) (.o1 .ld1 (.o1 (.fld 4) (.t 7))))) (.c (.bool true)) (.o2 (.bin .neq) (.o1 .ld1 (.o1 (.fld 13) (.t 6))) (.o1 .ld1 (.o1 (.fld 13) (.t 7))))) (.c (.bool true)) (.o2 (.eqs true [(.int .i64), (.int .i64), .str, (.int .i64)]) (.o1 (.ldn 4) (.o1 (.fld 5) (.t 6))) (.o1 (.ldn 4) (.o1 (.fld 5) (.t 7))))), false)] (.c2 (.eqs true [(.int .i64), (.int .i64), .str, (.int .i64)]) (.o1 (.ldn 4) (.o1 (.fld 9) (.t 6))) (.o1 (.ldn 4) (.o1 (.fld 9) (.t 7))))),
    (.chk [] (.c3 .pick (.o3 .pick (.o3 .pick (.o3 .pick (.o2 (.bin .neq) (.o1 .ld1 (.o1 (.fld 0) (.t 6))) (.o1 .ld1 (.o1 (.fld 0) (.t 7)))) (.c (.bool true)) (.o2 (.bin .neq) (.o1 .ld1 (.o1 (.fld 4) (.t 6))) (.o1 .ld1 (.o1 (.fld 4) (.t 7))))) (.c (.bool true)) (.o2 (.bin .neq) (.o1 .ld1 (.o1 (.fld 13) (.t 6))) (.o1 .ld1 (.o1 (.fld 13) (.t 7))))) (.c (.bool true)) (.o2 (.eqs true [(.int .i64), (.int .i64), .str, (.int .i64)]) (.o1 (.ldn 4) (.o1 (.fld 5) (.t 6))) (.o1 (.ldn 4) (.o1 (.fld 5) (.t 7))))) (.c (.bool true)) (.o2 (.eqs true [(.int .i64), (.int .i64), .str, (.int .i64)]) (.o1 (.ldn 4) (.o1 (.fld 9) (.t 6))) (.o1 (.ldn 4) (.o1 (.fld 9) (.t 7)))))),
    (.set 58 (.o3 .pick (.o3 .pick (.o3 .pick (.o3 .pick (.o2 (.bin .neq) (.o1 .ld1 (.o1 (.fld 0) (.t 6))) (.o1 .ld1 (.o1 (.fld 0) (.t 7)))) (.c (.bool true)) (.o2 (.bin .neq) (.o1 .ld1 (.o1 (.fld 4) (.t 6))) (.o1 .ld1 (.o1 (.fld 4) (.t 7))))) (.c (.bool true)) (.o2 (.bin .neq) (.o1 .ld1 (.o1 (.fld 13) (.t 6))) (.o1 .ld1 (.o1 (.fld 13) (.t 7))))) (.c (.bool true)) (.o2 (.eqs true [(.int .i64), (.int .i64), .str, (.int .i64)]) (.o1 (.ldn 4) (.o1 (.fld 5) (.t 6))) (.o1 (.ldn 4) (.o1 (.fld 5) (.t 7))))) (.c (.bool true)) (.o2 (.eqs true [(.int .i64), (.int .i64), .str, (.int .i64)]) (.o1 (.ldn 4) (.o1 (.fld 9) (.t 6))) (.o1 (.ldn 4) (.o1 (.fld 9) (.t 7))))))]) (.cond 58 (.seq (.sts [(.set 4 (.c (.bool false)))]) .ret) .skip)) (.seq (.sts [(.chk [] (.c1 (.fld 1) (.t 6))),
    (.chk [] (.c1 (.ldn 3) (.o1 (.fld 1) (.t 6)))),
    (.chk [] (.c1 (.fld 1) (.t 7))),
    (.chk [] (.c1 (.ldn 3) (.o1 (.fld 1) (.t 7)))),
    (.set 62 (.o1 (.ldn 3) (.o1 (.fld 1) (.t 7)))),
    (.set 60 (.o1 (.ldn 3) (.o1 (.fld 1) (.t 6)))),
    (.eff [] (some 63) (.call 36) [(.t 60), (.t 62)] []),
    (.chk [] (.c1 .not (.t 63))),
    (.set 64 (.o1 .not (.t 63)))]) (.cond 64 (.seq (.sts [(.set 4 (.c (.bool false)))]) .ret) .skip)))))) (.sts [(.chk [] (.c2 (.bin .add) (.t 15) (.c (.int .i64 1)))),
    (.set 65 (.o2 (.bin .add) (.t 15) (.c (.int .i64 1)))),
    (.set 15 (.t 65))]))))
def plSameBody_S : S :=
  (.seq (.sts [(.set 4 (.c (.bool false)))]) (.seq (.seq (.sts [(.chk [] (.c1 .len (.t 0))),
    (.chk [] (.c1 .len (.t 1))),
    (.chk [] (.c2 (.bin .neq) (.o1 .len (.t 0)) (.o1 .len (.t 1)))),
    (.set 12 (.o2 (.bin .neq) (.o1 .len (.t 0)) (.o1 .len (.t 1))))]) (.cond 12 (.seq (.sts [(.set 4 (.c (.bool false)))]) .ret) .skip)) (.seq (.seq (.sts [(.chk [] (.c1 .len (.t 0))),
    (.set 14 (.o1 .len (.t 0))),
    (.set 15 (.c (.int .i64 0)))]) (.block 0 (.loop plSameBody_L1))) (.seq (.sts [(.set 4 (.c (.bool true)))]) .ret))))
def plSameBody_E : Res := [(none, (.t 4))]
theorem plSameBody_C : Tryd.f18.body.bind (comp Tryd.prog plSameBody_M Tryd.f18.ntmps) = some plSameBody_S := by kernel_rfl
theorem plSameBody_R : resE Tryd.prog plSameBody_M Tryd.f18.results.toList = some plSameBody_E := by kernel_rfl
theorem plSameBody_H (G : Ctr) (hG : GOk Tryd.prog G) (a0 : Value) (a1 : Value) {h : H} {K : Value → H → Prop} {KP : List PanicEntry → H → Prop} (Hw : wpS G plSameBody_S (retQ plSameBody_E (callK K KP)) (envOf 0 [a0, a1] env0) h) : HCX Tryd.prog 18 [a0, a1] h K KP :=
  .inl ⟨by kernel_rfl, hc_of mixed hG Tryd.func18 plSameBody_C plSameBody_R (of_decide_eq_true (by kernel_rfl)) Hw⟩
def plSameClauses_M : Nat → Bool := fun i => Nat.testBit 2199023285299 i
def plSameClauses_L1 : S :=
  (.seq (.sts [(.chk [] (.c2 (.bin .lss) (.t 13) (.t 12))),
    (.set 14 (.o2 (.bin .lss) (.t 13) (.t 12)))]) (.seq (.cond 14 .skip (.exit 0)) (.seq (.block 1 (.seq (.sts [(.set 5 (.t 13))]) (.seq (.sts [(.chk [] (.c2 (.idxA 4) (.t 0) (.t 5))),
    (.chk [] (.c1 (.fld 0) (.o2 (.idxA 4) (.t 0) (.t 5)))),
    (.chk [] (.c1 (.ldn 3) (.o1 (.fld 0) (.o2 (.idxA 4) (.t 0) (.t 5))))),
    (.chk [] (.c2 (.idxA 4) (.t 1) (.t 5))),
    (.chk [] (.c1 (.fld 0) (.o2 (.idxA 4) (.t 1) (.t 5)))),
    (.chk [] (.c1 (.ldn 3) (.o1 (.fld 0) (.o2 (.idxA 4) (.t 1) (.t 5))))),
    (.set 25 (.o1 (.ldn 3) (.o1 (.fld 0) (.o2 (.idxA 4) (.t 1) (.t 5))))),
    (.set 20 (.o1 (.ldn 3) (.o1 (.fld 0) (.o2 (.idxA 4) (.t 0) (.t 5))))),
    (.eff [] (some 26) (.call 36) [(.t 20), (.t 25)] []),
    (.chk [] (.c1 .not (.t 26))),
    (.chk [((.o1 .not (.t 26)), false)] (.c2 (.idxA 4) (.t 0) (.t 5))),
    (.chk [((.o1 .not (.t 26)), false)] (.c1 (.fld 3) (.o2 (.idxA 4) (.t 0) (.t 5)))),
    (.chk [((.o1 .not (.t 26)), false)] (.c1 .ld1 (.o1 (.fld 3) (.o2 (.idxA 4) (.t 0) (.t 5))))),
    (.chk [((.o1 .not (.t 26)), false)] (.c2 (.idxA 4) (.t 1) (.t 5))),
    (.chk [((.o1 .not (.t 26)), false)] (.c1 (.fld 3) (.o2 (.idxA 4) (.t 1) (.t 5)))),
    (.chk [((.o1 .not (.t 26)), false)] (.c1 .ld1 (.o1 (.fld 3) (.o2 (.idxA 4) (.t 1) (.t 5))))),
    (.set 38 (.o1 .ld1 (.o1 (.fld 3) (.o2 (.idxA 4) (.t 1) (.t 5))))),
    (.set 33 (.o1 .ld1 (.o1 (.fld 3) (.o2 (.idxA 4) (.t 0) (.t 5))))),
    (.eff [((.o1 .not (.t 26)), false)] (some 39) (.call 18) [(.t 33), (.t 38)] []),
    (.chk [((.o1 .not (.t 26)), false)] (.c1 .not (.t 39))),
    (.chk [] (.c3 .pick (.o1 .not (.t 26)) (.c (.bool true)) (.o1 .not (.t 39)))),
    (.set 41 (.o3 .pick (.o1 .not (.t 26)) (.c (.bool true)) (.o1 .not (.t 39))))]) (.cond 41 (.seq (.sts [(.set 4 (.c (.bool false)))]) .ret) .skip)))) (.sts [(.chk [] (.c2 (.bin .add) (.t 13) (.c (.int .i64 1)))),
    (.set 42 (.o2 (.bin .add) (.t 13) (.c (.int .i64 1)))),
    (.set 13 (.t 42))]))))
def plSameClauses_S : S :=
  (.seq (.sts [(.set 4 (.c (.bool false)))]) (.seq (.seq (.sts [(.chk [] (.c1 .len (.t 0))),
    (.chk [] (.c1 .len (.t 1))),
    (.chk [] (.c2 (.bin .neq) (.o1 .len (.t 0)) (.o1 .len (.t 1)))),
    (.set 10 (.o2 (.bin .neq) (.o1 .len (.t 0)) (.o1 .len (.t 1))))]) (.cond 10 (.seq (.sts [(.set 4 (.c (.bool false)))]) .ret) .skip)) (.seq (.seq (.sts [(.chk [] (.c1 .len (.t 0))),
    (.set 12 (.o1 .len (.t 0))),
    (.set 13 (.c (.int .i64 0)))]) (.block 0 (.loop plSameClauses_L1))) (.seq (.sts [(.set 4 (.c (.bool true)))]) .ret))))
def plSameClauses_E : Res := [(none, (.t 4))]
theorem plSameClauses_C : Tryd.f17.body.bind (comp Tryd.prog plSameClauses_M Tryd.f17.ntmps) = some plSameClauses_S := by kernel_rfl
theorem plSameClauses_R : resE Tryd.prog plSameClauses_M Tryd.f17.results.toList = some plSameClauses_E := by kernel_rfl
theorem plSameClauses_H (G : Ctr) (hG : GOk Tryd.prog G) (a0 : Value) (a1 : Value) {h : H} {K : Value → H → Prop} {KP : List PanicEntry → H → Prop} (Hw : wpS G plSameClauses_S (retQ plSameClauses_E (callK K KP)) (envOf 0 [a0, a1] env0) h) : HCX Tryd.prog 17 [a0, a1] h K KP :=
  .inl ⟨by kernel_rfl, hc_of mixed hG Tryd.func17 plSameClauses_C plSameClauses_R (of_decide_eq_true (by kernel_rfl)) Hw⟩
end Go.Proofs.YtlenjlidahnklaaDoor
