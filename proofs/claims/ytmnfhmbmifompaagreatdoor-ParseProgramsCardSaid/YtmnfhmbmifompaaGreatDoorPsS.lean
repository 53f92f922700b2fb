/- The small statements of functions of the program, as the closed computation gives them (written by a program of ours; checked by the kernel below). -/
import Derived.Test.YtmnfhmbmifompaaGreatDoorEvB
import Derived.Test.YtmnfhmbmifompaaGreatDoorProg
import Derived.KernelRfl
import Derived.Test.YtmnfhmbmifompaaGreatDoorTokS
namespace Go.Proofs.YtmnfhmbmifompaaGreatDoor
open Go Go.Ev
def psPeek_M : Nat → Bool := fun i => Nat.testBit 4101 i
def psPeek_S : S :=
  (.seq (.sts [(.eff [] (some 2) (.alloc 40 #[(.int .i64 0), (str []), (.int .i64 0), (.int .i64 0), (.int .i64 0), (.int .i64 0)]) [] [])]) (.seq (.seq (.sts [(.chk [] (.c1 .nilck (.t 0))),
    (.chk [] (.c1 (.fld 1) (.t 0))),
    (.chk [] (.c1 .ld1 (.o1 (.fld 1) (.t 0)))),
    (.chk [] (.c1 .nilck (.t 0))),
    (.chk [] (.c1 (.fld 0) (.t 0))),
    (.chk [] (.c1 .ld1 (.o1 (.fld 0) (.t 0)))),
    (.chk [] (.c1 .len (.o1 .ld1 (.o1 (.fld 0) (.t 0))))),
    (.chk [] (.c2 (.bin .geq) (.o1 .ld1 (.o1 (.fld 1) (.t 0))) (.o1 .len (.o1 .ld1 (.o1 (.fld 0) (.t 0)))))),
    (.set 12 (.o2 (.bin .geq) (.o1 .ld1 (.o1 (.fld 1) (.t 0))) (.o1 .len (.o1 .ld1 (.o1 (.fld 0) (.t 0))))))]) (.cond 12 (.sts [(.chk [] (.c1 .nilck (.t 0))),
    (.chk [] (.c1 (.fld 2) (.t 0))),
    (.chk [] (.c1 (.fld 0) (.o1 (.fld 2) (.t 0)))),
    (.chk [] (.c1 .ld1 (.o1 (.fld 0) (.o1 (.fld 2) (.t 0))))),
    (.chk [] (.c1 .nilck (.t 0))),
    (.chk [] (.c1 (.fld 2) (.t 0))),
    (.chk [] (.c1 (.fld 2) (.o1 (.fld 2) (.t 0)))),
    (.chk [] (.c1 .ld1 (.o1 (.fld 2) (.o1 (.fld 2) (.t 0))))),
    (.chk [] (.cb 3 [(0, (1, (.o1 .ld1 (.o1 (.fld 0) (.o1 (.fld 2) (.t 0)))))), (2, (1, (.o1 .ld1 (.o1 (.fld 2) (.o1 (.fld 2) (.t 0))))))])),
    (.chk [] (.cb 3 [(0, (3, (.o2 (.put 2 1) (.o2 (.put 0 1) (.c (.agg #[(.int .i64 0), (.int .i64 0), (.int .i64 0)])) (.o1 .ld1 (.o1 (.fld 0) (.o1 (.fld 2) (.t 0))))) (.o1 .ld1 (.o1 (.fld 2) (.o1 (.fld 2) (.t 0)))))))])),
    (.chk [] (.c1 (.mki 65) (.o2 (.put 0 3) (.c (.agg #[(.int .i64 0), (.int .i64 0), (.int .i64 0)])) (.o2 (.put 2 1) (.o2 (.put 0 1) (.c (.agg #[(.int .i64 0), (.int .i64 0), (.int .i64 0)])) (.o1 .ld1 (.o1 (.fld 0) (.o1 (.fld 2) (.t 0))))) (.o1 .ld1 (.o1 (.fld 2) (.o1 (.fld 2) (.t 0)))))))),
    (.set 25 (.o1 (.mki 65) (.o2 (.put 0 3) (.c (.agg #[(.int .i64 0), (.int .i64 0), (.int .i64 0)])) (.o2 (.put 2 1) (.o2 (.put 0 1) (.c (.agg #[(.int .i64 0), (.int .i64 0), (.int .i64 0)])) (.o1 .ld1 (.o1 (.fld 0) (.o1 (.fld 2) (.t 0))))) (.o1 .ld1 (.o1 (.fld 2) (.o1 (.fld 2) (.t 0)))))))),
    (.eff [] none .pnc [(.t 25)] [])]) .skip)) (.seq (.sts [(.chk [] (.c1 .nilck (.t 0))),
    (.chk [] (.c1 (.fld 0) (.t 0))),
    (.chk [] (.c1 .ld1 (.o1 (.fld 0) (.t 0)))),
    (.chk [] (.c1 .nilck (.t 0))),
    (.chk [] (.c1 (.fld 1) (.t 0))),
    (.chk [] (.c1 .ld1 (.o1 (.fld 1) (.t 0)))),
    (.chk [] (.c2 (.idxA 6) (.o1 .ld1 (.o1 (.fld 0) (.t 0))) (.o1 .ld1 (.o1 (.fld 1) (.t 0))))),
    (.chk [] (.c1 (.ldn 6) (.o2 (.idxA 6) (.o1 .ld1 (.o1 (.fld 0) (.t 0))) (.o1 .ld1 (.o1 (.fld 1) (.t 0)))))),
    (.set 35 (.o1 (.ldn 6) (.o2 (.idxA 6) (.o1 .ld1 (.o1 (.fld 0) (.t 0))) (.o1 .ld1 (.o1 (.fld 1) (.t 0)))))),
    (.set 34 (.o2 (.idxA 6) (.o1 .ld1 (.o1 (.fld 0) (.t 0))) (.o1 .ld1 (.o1 (.fld 1) (.t 0))))),
    (.eff [] none (.store 6) [(.t 2), (.t 35)] [])]) .ret)))
def psPeek_E : Res := [((some (.c1 (.ldn 6) (.t 2))), (.o1 (.ldn 6) (.t 2)))]
theorem psPeek_C : Tryz.f20.body.bind (comp Tryz.prog psPeek_M Tryz.f20.ntmps) = some psPeek_S := by kernel_rfl
theorem psPeek_R : resE Tryz.prog psPeek_M Tryz.f20.results.toList = some psPeek_E := by kernel_rfl
theorem psPeek_H (G : Ctr) (hG : GOk Tryz.prog G) (a0 : Value) {h : H} {K : Value → H → Prop} {KP : List PanicEntry → H → Prop} (Hw : wpS G psPeek_S (retQ psPeek_E (callK K KP)) (envOf 0 [a0] env0) h) : HCX Tryz.prog 20 [a0] h K KP :=
  .inl ⟨by kernel_rfl, hc_of mixed hG Tryz.func20 psPeek_C psPeek_R (of_decide_eq_true (by kernel_rfl)) Hw⟩
def psStop_M : Nat → Bool := fun i => Nat.testBit 3 i
def psStop_S : S :=
  (.sts [(.eff [] (some 6) (.call 20) [(.t 0)] []),
    (.chk [] (.c1 (.part 4) (.t 6))),
    (.chk [] (.cb 3 [(0, (1, (.t 1))), (2, (1, (.o1 (.part 4) (.t 6))))])),
    (.chk [] (.cb 3 [(0, (3, (.o2 (.put 2 1) (.o2 (.put 0 1) (.c (.agg #[(.int .i64 0), (.int .i64 0), (.int .i64 0)])) (.t 1)) (.o1 (.part 4) (.t 6)))))])),
    (.chk [] (.c1 (.mki 65) (.o2 (.put 0 3) (.c (.agg #[(.int .i64 0), (.int .i64 0), (.int .i64 0)])) (.o2 (.put 2 1) (.o2 (.put 0 1) (.c (.agg #[(.int .i64 0), (.int .i64 0), (.int .i64 0)])) (.t 1)) (.o1 (.part 4) (.t 6)))))),
    (.eff [] none .pnc [(.o1 (.mki 65) (.o2 (.put 0 3) (.c (.agg #[(.int .i64 0), (.int .i64 0), (.int .i64 0)])) (.o2 (.put 2 1) (.o2 (.put 0 1) (.c (.agg #[(.int .i64 0), (.int .i64 0), (.int .i64 0)])) (.t 1)) (.o1 (.part 4) (.t 6)))))] [])])
def psStop_E : Res := []
theorem psStop_C : Tryz.f21.body.bind (comp Tryz.prog psStop_M Tryz.f21.ntmps) = some psStop_S := by kernel_rfl
theorem psStop_R : resE Tryz.prog psStop_M Tryz.f21.results.toList = some psStop_E := by kernel_rfl
theorem psStop_H (G : Ctr) (hG : GOk Tryz.prog G) (a0 : Value) (a1 : Value) {h : H} {K : Value → H → Prop} {KP : List PanicEntry → H → Prop} (Hw : wpS G psStop_S (retQ psStop_E (callK K KP)) (envOf 0 [a0, a1] env0) h) : HCX Tryz.prog 21 [a0, a1] h K KP :=
  .inl ⟨by kernel_rfl, hc_of mixed hG Tryz.func21 psStop_C psStop_R (of_decide_eq_true (by kernel_rfl)) Hw⟩
def psRefuse_M : Nat → Bool := fun i => Nat.testBit 33 i
def psRefuse_S : S :=
  (.seq (.seq (.sts [(.eff [] (some 3) (.call 20) [(.t 0)] []),
    (.chk [] (.c1 (.part 0) (.t 3))),
    (.chk [] (.c2 (.bin .eql) (.o1 (.part 0) (.t 3)) (.c (.int .i64 0)))),
    (.set 5 (.o2 (.bin .eql) (.o1 (.part 0) (.t 3)) (.c (.int .i64 0))))]) (.cond 5 (.sts [(.eff [] (some 7) (.call 21) [(.t 0), (.c (.int .i64 21))] [])]) .skip)) (.sts [(.eff [] (some 9) (.call 21) [(.t 0), (.c (.int .i64 20))] [])]))
def psRefuse_E : Res := []
theorem psRefuse_C : Tryz.f29.body.bind (comp Tryz.prog psRefuse_M Tryz.f29.ntmps) = some psRefuse_S := by kernel_rfl
theorem psRefuse_R : resE Tryz.prog psRefuse_M Tryz.f29.results.toList = some psRefuse_E := by kernel_rfl
theorem psRefuse_H (G : Ctr) (hG : GOk Tryz.prog G) (a0 : Value) {h : H} {K : Value → H → Prop} {KP : List PanicEntry → H → Prop} (Hw : wpS G psRefuse_S (retQ psRefuse_E (callK K KP)) (envOf 0 [a0] env0) h) : HCX Tryz.prog 29 [a0] h K KP :=
  .inl ⟨by kernel_rfl, hc_of mixed hG Tryz.func29 psRefuse_C psRefuse_R (of_decide_eq_true (by kernel_rfl)) Hw⟩
def psTake_M : Nat → Bool := fun i => Nat.testBit 34867 i
def psTake_S : S :=
  (.seq (.sts [(.eff [] (some 4) (.alloc 40 #[(.int .i64 0), (str []), (.int .i64 0), (.int .i64 0), (.int .i64 0), (.int .i64 0)]) [] [])]) (.seq (.sts [(.eff [] (some 7) (.call 20) [(.t 0)] []),
    (.eff [] (some 5) (.alloc 40 #[(.int .i64 0), (str []), (.int .i64 0), (.int .i64 0), (.int .i64 0), (.int .i64 0)]) [] []),
    (.eff [] none (.store 6) [(.t 5), (.t 7)] [])]) (.seq (.seq (.sts [(.chk [] (.c1 (.fld 0) (.t 5))),
    (.chk [] (.c1 .ld1 (.o1 (.fld 0) (.t 5)))),
    (.chk [] (.c2 (.bin .neq) (.o1 .ld1 (.o1 (.fld 0) (.t 5))) (.t 1))),
    (.set 11 (.o2 (.bin .neq) (.o1 .ld1 (.o1 (.fld 0) (.t 5))) (.t 1)))]) (.cond 11 (.sts [(.eff [] (some 13) (.call 29) [(.t 0)] [])]) .skip)) (.seq (.seq (.sts [(.chk [] (.c2 (.bin .neq) (.t 1) (.c (.int .i64 0)))),
    (.set 15 (.o2 (.bin .neq) (.t 1) (.c (.int .i64 0))))]) (.cond 15 (.sts [(.chk [] (.c1 .nilck (.t 0))),
    (.chk [] (.c1 (.fld 1) (.t 0))),
    (.chk [] (.c1 .ld1 (.o1 (.fld 1) (.t 0)))),
    (.chk [] (.c2 (.bin .add) (.o1 .ld1 (.o1 (.fld 1) (.t 0))) (.c (.int .i64 1)))),
    (.chk [] (.c1 .nilck (.t 0))),
    (.chk [] (.c1 (.fld 1) (.t 0))),
    (.set 20 (.o2 (.bin .add) (.o1 .ld1 (.o1 (.fld 1) (.t 0))) (.c (.int .i64 1)))),
    (.eff [] none (.store 1) [(.o1 (.fld 1) (.t 0)), (.t 20)] [])]) .skip)) (.seq (.sts [(.chk [] (.c1 (.ldn 6) (.t 5))),
    (.set 23 (.o1 (.ldn 6) (.t 5))),
    (.eff [] none (.store 6) [(.t 4), (.t 23)] [])]) .ret)))))
def psTake_E : Res := [((some (.c1 (.ldn 6) (.t 4))), (.o1 (.ldn 6) (.t 4)))]
theorem psTake_C : Tryz.f14.body.bind (comp Tryz.prog psTake_M Tryz.f14.ntmps) = some psTake_S := by kernel_rfl
theorem psTake_R : resE Tryz.prog psTake_M Tryz.f14.results.toList = some psTake_E := by kernel_rfl
theorem psTake_H (G : Ctr) (hG : GOk Tryz.prog G) (a0 : Value) (a1 : Value) {h : H} {K : Value → H → Prop} {KP : List PanicEntry → H → Prop} (Hw : wpS G psTake_S (retQ psTake_E (callK K KP)) (envOf 0 [a0, a1] env0) h) : HCX Tryz.prog 14 [a0, a1] h K KP :=
  .inl ⟨by kernel_rfl, hc_of mixed hG Tryz.func14 psTake_C psTake_R (of_decide_eq_true (by kernel_rfl)) Hw⟩
def psIsTerm_M : Nat → Bool := fun i => Nat.testBit 1139 i
def psIsTerm_S : S :=
  (.seq (.sts [(.set 4 (.c (.bool false)))]) (.seq (.seq (.sts [(.set 5 (.t 0))]) (.block 0 (.seq (.seq (.sts [(.chk [] (.c2 (.bin .eql) (.t 5) (.c (.int .i64 1)))),
    (.set 6 (.o2 (.bin .eql) (.t 5) (.c (.int .i64 1))))]) (.cond 6 .skip (.seq (.sts [(.chk [] (.c2 (.bin .eql) (.t 5) (.c (.int .i64 3)))),
    (.set 6 (.o2 (.bin .eql) (.t 5) (.c (.int .i64 3))))]) (.cond 6 .skip (.sts [(.chk [] (.c2 (.bin .eql) (.t 5) (.c (.int .i64 4)))),
    (.set 6 (.o2 (.bin .eql) (.t 5) (.c (.int .i64 4))))]))))) (.cond 6 (.seq (.sts [(.set 4 (.c (.bool true)))]) .ret) (.seq (.sts [(.chk [] (.c2 (.bin .eql) (.t 5) (.c (.int .i64 2)))),
    (.set 10 (.o2 (.bin .eql) (.t 5) (.c (.int .i64 2))))]) (.cond 10 (.seq (.sts [(.set 4 (.t 1))]) .ret) .skip)))))) (.seq (.sts [(.set 4 (.c (.bool false)))]) .ret)))
def psIsTerm_E : Res := [(none, (.t 4))]
theorem psIsTerm_C : Tryz.f40.body.bind (comp Tryz.prog psIsTerm_M Tryz.f40.ntmps) = some psIsTerm_S := by kernel_rfl
theorem psIsTerm_R : resE Tryz.prog psIsTerm_M Tryz.f40.results.toList = some psIsTerm_E := by kernel_rfl
theorem psIsTerm_H (G : Ctr) (hG : GOk Tryz.prog G) (a0 : Value) (a1 : Value) {h : H} {K : Value → H → Prop} {KP : List PanicEntry → H → Prop} (Hw : wpS G psIsTerm_S (retQ psIsTerm_E (callK K KP)) (envOf 0 [a0, a1] env0) h) : HCX Tryz.prog 40 [a0, a1] h K KP :=
  .inl ⟨by kernel_rfl, hc_of mixed hG Tryz.func40 psIsTerm_C psIsTerm_R (of_decide_eq_true (by kernel_rfl)) Hw⟩
def psTerm_M : Nat → Bool := fun i => Nat.testBit 1238561202291 i
def psTerm_S : S :=
  (.seq (.sts [(.eff [] (some 4) (.alloc 53 #[(.int .i64 0), (.int .i64 0), (str []), (.int .i64 0)]) [] [])]) (.seq (.sts [(.eff [] (some 8) (.call 20) [(.t 0)] []),
    (.eff [] (some 5) (.alloc 40 #[(.int .i64 0), (str []), (.int .i64 0), (.int .i64 0), (.int .i64 0), (.int .i64 0)]) [] []),
    (.eff [] none (.store 6) [(.t 5), (.t 8)] [])]) (.seq (.seq (.sts [(.chk [] (.c1 (.fld 0) (.t 5))),
    (.chk [] (.c1 .ld1 (.o1 (.fld 0) (.t 5)))),
    (.set 10 (.o1 .ld1 (.o1 (.fld 0) (.t 5)))),
    (.eff [] (some 12) (.call 40) [(.t 10), (.t 1)] []),
    (.chk [] (.c1 .not (.t 12))),
    (.set 13 (.o1 .not (.t 12)))]) (.cond 13 (.sts [(.eff [] (some 15) (.call 29) [(.t 0)] [])]) .skip)) (.seq (.sts [(.chk [] (.c1 .nilck (.t 0))),
    (.chk [] (.c1 (.fld 1) (.t 0))),
    (.chk [] (.c1 .ld1 (.o1 (.fld 1) (.t 0)))),
    (.chk [] (.c2 (.bin .add) (.o1 .ld1 (.o1 (.fld 1) (.t 0))) (.c (.int .i64 1)))),
    (.chk [] (.c1 .nilck (.t 0))),
    (.chk [] (.c1 (.fld 1) (.t 0))),
    (.set 20 (.o2 (.bin .add) (.o1 .ld1 (.o1 (.fld 1) (.t 0))) (.c (.int .i64 1)))),
    (.eff [] none (.store 1) [(.o1 (.fld 1) (.t 0)), (.t 20)] [])]) (.seq (.sts [(.chk [] (.c1 (.fld 1) (.t 5))),
    (.chk [] (.c1 .ld1 (.o1 (.fld 1) (.t 5)))),
    (.chk [] (.c1 (.fld 4) (.t 5))),
    (.chk [] (.c1 .ld1 (.o1 (.fld 4) (.t 5)))),
    (.chk [] (.cb 4 [(0, (1, (.c (.int .i64 4)))), (2, (1, (.o1 .ld1 (.o1 (.fld 1) (.t 5))))), (3, (1, (.o1 .ld1 (.o1 (.fld 4) (.t 5)))))])),
    (.set 27 (.o2 (.put 3 1) (.o2 (.put 2 1) (.o2 (.put 0 1) (.c (.agg #[(.int .i64 0), (.int .i64 0), (str []), (.int .i64 0)])) (.c (.int .i64 4))) (.o1 .ld1 (.o1 (.fld 1) (.t 5)))) (.o1 .ld1 (.o1 (.fld 4) (.t 5))))),
    (.eff [] (some 6) (.alloc 53 #[(.int .i64 0), (.int .i64 0), (str []), (.int .i64 0)]) [] []),
    (.eff [] none (.store 4) [(.t 6), (.t 27)] [])]) (.seq (.seq (.sts [(.chk [] (.c1 (.fld 0) (.t 5))),
    (.chk [] (.c1 .ld1 (.o1 (.fld 0) (.t 5)))),
    (.set 29 (.o1 .ld1 (.o1 (.fld 0) (.t 5))))]) (.block 0 (.seq (.sts [(.chk [] (.c2 (.bin .eql) (.t 29) (.c (.int .i64 3)))),
    (.set 30 (.o2 (.bin .eql) (.t 29) (.c (.int .i64 3))))]) (.cond 30 (.sts [(.chk [] (.c1 (.fld 2) (.t 5))),
    (.chk [] (.c1 .ld1 (.o1 (.fld 2) (.t 5)))),
    (.chk [] (.c1 (.fld 0) (.t 6))),
    (.set 33 (.o1 .ld1 (.o1 (.fld 2) (.t 5)))),
    (.eff [] none (.store 1) [(.o1 (.fld 0) (.t 6)), (.c (.int .i64 1))] [([], ((.o1 (.fld 2) (.t 5)), none))]),
    (.chk [] (.c1 (.fld 1) (.t 6))),
    (.eff [] none (.store 1) [(.o1 (.fld 1) (.t 6)), (.t 33)] []),
    (.chk [] (.c1 (.fld 2) (.t 6))),
    (.eff [] none (.store 1) [(.o1 (.fld 2) (.t 6)), (.c (str []))] [])]) (.seq (.sts [(.chk [] (.c2 (.bin .eql) (.t 29) (.c (.int .i64 1)))),
    (.set 37 (.o2 (.bin .eql) (.t 29) (.c (.int .i64 1))))]) (.cond 37 (.sts [(.chk [] (.c1 (.fld 0) (.t 6))),
    (.eff [] none (.store 1) [(.o1 (.fld 0) (.t 6)), (.c (.int .i64 2))] [])]) (.seq (.sts [(.chk [] (.c2 (.bin .eql) (.t 29) (.c (.int .i64 4)))),
    (.set 40 (.o2 (.bin .eql) (.t 29) (.c (.int .i64 4))))]) (.cond 40 (.sts [(.chk [] (.c1 (.fld 0) (.t 6))),
    (.eff [] none (.store 1) [(.o1 (.fld 0) (.t 6)), (.c (.int .i64 3))] [])]) .skip)))))))) (.seq (.sts [(.chk [] (.c1 (.ldn 4) (.t 6))),
    (.set 43 (.o1 (.ldn 4) (.t 6))),
    (.eff [] none (.store 4) [(.t 4), (.t 43)] [])]) .ret)))))))
def psTerm_E : Res := [((some (.c1 (.ldn 4) (.t 4))), (.o1 (.ldn 4) (.t 4)))]
theorem psTerm_C : Tryz.f42.body.bind (comp Tryz.prog psTerm_M Tryz.f42.ntmps) = some psTerm_S := by kernel_rfl
theorem psTerm_R : resE Tryz.prog psTerm_M Tryz.f42.results.toList = some psTerm_E := by kernel_rfl
theorem psTerm_H (G : Ctr) (hG : GOk Tryz.prog G) (a0 : Value) (a1 : Value) {h : H} {K : Value → H → Prop} {KP : List PanicEntry → H → Prop} (Hw : wpS G psTerm_S (retQ psTerm_E (callK K KP)) (envOf 0 [a0, a1] env0) h) : HCX Tryz.prog 42 [a0, a1] h K KP :=
  .inl ⟨by kernel_rfl, hc_of mixed hG Tryz.func42 psTerm_C psTerm_R (of_decide_eq_true (by kernel_rfl)) Hw⟩
def psAtom_M : Nat → Bool := fun i => Nat.testBit 2310909627514093683 i
def psAtom_L1 : S :=
  (.block 1 (.seq (.seq (.sts [(.chk [] (.c1 (.fld 1) (.t 6))),
    (.chk [] (.c1 .ld1 (.o1 (.fld 1) (.t 6)))),
    (.chk [] (.c1 .len (.o1 .ld1 (.o1 (.fld 1) (.t 6))))),
    (.chk [] (.c2 (.bin .geq) (.o1 .len (.o1 .ld1 (.o1 (.fld 1) (.t 6)))) (.c (.int .i64 8)))),
    (.set 30 (.o2 (.bin .geq) (.o1 .len (.o1 .ld1 (.o1 (.fld 1) (.t 6)))) (.c (.int .i64 8)))),
    (.eff [((.t 30), true)] (some 32) (.call 20) [(.t 0)] []),
    (.chk [((.t 30), true)] (.c1 (.part 0) (.t 32))),
    (.eff [((.t 30), true)] (some 35) (.call 40) [(.o1 (.part 0) (.t 32)), (.t 1)] []),
    (.chk [] (.c3 .pick (.t 30) (.t 35) (.c (.bool false)))),
    (.set 36 (.o3 .pick (.t 30) (.t 35) (.c (.bool false))))]) (.cond 36 (.sts [(.eff [] (some 38) (.call 21) [(.t 0), (.c (.int .i64 22))] [])]) .skip)) (.seq (.sts [(.chk [] (.c1 (.fld 1) (.t 6))),
    (.chk [] (.c1 .ld1 (.o1 (.fld 1) (.t 6)))),
    (.set 40 (.o1 .ld1 (.o1 (.fld 1) (.t 6)))),
    (.eff [] (some 43) (.call 42) [(.t 0), (.t 1)] [([], ((.o1 (.fld 1) (.t 6)), none))]),
    (.eff [] (some 44) (.bsl 53 4 1 [(.int .i64 0), (.int .i64 0), (str []), (.int .i64 0)] [0]) [(.t 43)] [([], ((.o1 (.fld 1) (.t 6)), none))]),
    (.eff [] (some 45) (.app 53 4 40 [(.int .i64 0), (.int .i64 0), (str []), (.int .i64 0)]) [(.t 40), (.t 44)] []),
    (.chk [] (.c1 (.fld 1) (.t 6))),
    (.eff [] none (.store 1) [(.o1 (.fld 1) (.t 6)), (.t 45)] [])]) (.seq (.sts [(.eff [] (some 48) (.call 20) [(.t 0)] []),
    (.chk [] (.c1 (.part 0) (.t 48))),
    (.set 49 (.o1 (.part 0) (.t 48)))]) (.block 2 (.seq (.sts [(.chk [] (.c2 (.bin .eql) (.t 49) (.c (.int .i64 7)))),
    (.set 52 (.o2 (.bin .eql) (.t 49) (.c (.int .i64 7))))]) (.cond 52 (.sts [(.chk [] (.c1 .nilck (.t 0))),
    (.chk [] (.c1 (.fld 1) (.t 0))),
    (.chk [] (.c1 .ld1 (.o1 (.fld 1) (.t 0)))),
    (.chk [] (.c2 (.bin .add) (.o1 .ld1 (.o1 (.fld 1) (.t 0))) (.c (.int .i64 1)))),
    (.chk [] (.c1 .nilck (.t 0))),
    (.chk [] (.c1 (.fld 1) (.t 0))),
    (.set 58 (.o2 (.bin .add) (.o1 .ld1 (.o1 (.fld 1) (.t 0))) (.c (.int .i64 1)))),
    (.eff [] none (.store 1) [(.o1 (.fld 1) (.t 0)), (.t 58)] [])]) (.seq (.sts [(.chk [] (.c2 (.bin .eql) (.t 49) (.c (.int .i64 6)))),
    (.set 61 (.o2 (.bin .eql) (.t 49) (.c (.int .i64 6))))]) (.cond 61 (.seq (.sts [(.chk [] (.c1 .nilck (.t 0))),
    (.chk [] (.c1 (.fld 1) (.t 0))),
    (.chk [] (.c1 .ld1 (.o1 (.fld 1) (.t 0)))),
    (.chk [] (.c2 (.bin .add) (.o1 .ld1 (.o1 (.fld 1) (.t 0))) (.c (.int .i64 1)))),
    (.chk [] (.c1 .nilck (.t 0))),
    (.chk [] (.c1 (.fld 1) (.t 0))),
    (.set 67 (.o2 (.bin .add) (.o1 .ld1 (.o1 (.fld 1) (.t 0))) (.c (.int .i64 1)))),
    (.eff [] none (.store 1) [(.o1 (.fld 1) (.t 0)), (.t 67)] [])]) (.seq (.sts [(.chk [] (.c1 (.ldn 3) (.t 6))),
    (.set 70 (.o1 (.ldn 3) (.t 6))),
    (.eff [] none (.store 3) [(.t 4), (.t 70)] [])]) .ret)) (.sts [(.eff [] (some 51) (.call 29) [(.t 0)] [])]))))))))))
def psAtom_S : S :=
  (.seq (.sts [(.eff [] (some 4) (.alloc 51 #[(str []), (.slice none 0 0), (.int .i64 0)]) [] [])]) (.seq (.sts [(.eff [] (some 8) (.call 14) [(.t 0), (.c (.int .i64 1))] []),
    (.eff [] (some 5) (.alloc 40 #[(.int .i64 0), (str []), (.int .i64 0), (.int .i64 0), (.int .i64 0), (.int .i64 0)]) [] []),
    (.eff [] none (.store 6) [(.t 5), (.t 8)] [])]) (.seq (.sts [(.chk [] (.c1 (.fld 1) (.t 5))),
    (.chk [] (.c1 .ld1 (.o1 (.fld 1) (.t 5)))),
    (.chk [] (.c1 (.fld 4) (.t 5))),
    (.chk [] (.c1 .ld1 (.o1 (.fld 4) (.t 5)))),
    (.chk [] (.cb 3 [(0, (1, (.o1 .ld1 (.o1 (.fld 1) (.t 5))))), (2, (1, (.o1 .ld1 (.o1 (.fld 4) (.t 5)))))])),
    (.set 13 (.o2 (.put 2 1) (.o2 (.put 0 1) (.c (.agg #[(str []), (.slice none 0 0), (.int .i64 0)])) (.o1 .ld1 (.o1 (.fld 1) (.t 5)))) (.o1 .ld1 (.o1 (.fld 4) (.t 5))))),
    (.eff [] (some 6) (.alloc 51 #[(str []), (.slice none 0 0), (.int .i64 0)]) [] []),
    (.eff [] none (.store 3) [(.t 6), (.t 13)] [])]) (.seq (.seq (.sts [(.eff [] (some 15) (.call 20) [(.t 0)] []),
    (.chk [] (.c1 (.part 0) (.t 15))),
    (.chk [] (.c2 (.bin .neq) (.o1 (.part 0) (.t 15)) (.c (.int .i64 5)))),
    (.set 17 (.o2 (.bin .neq) (.o1 (.part 0) (.t 15)) (.c (.int .i64 5))))]) (.cond 17 (.seq (.sts [(.chk [] (.c1 (.ldn 3) (.t 6))),
    (.set 18 (.o1 (.ldn 3) (.t 6))),
    (.eff [] none (.store 3) [(.t 4), (.t 18)] [])]) .ret) .skip)) (.seq (.sts [(.chk [] (.c1 .nilck (.t 0))),
    (.chk [] (.c1 (.fld 1) (.t 0))),
    (.chk [] (.c1 .ld1 (.o1 (.fld 1) (.t 0)))),
    (.chk [] (.c2 (.bin .add) (.o1 .ld1 (.o1 (.fld 1) (.t 0))) (.c (.int .i64 1)))),
    (.chk [] (.c1 .nilck (.t 0))),
    (.chk [] (.c1 (.fld 1) (.t 0))),
    (.set 23 (.o2 (.bin .add) (.o1 .ld1 (.o1 (.fld 1) (.t 0))) (.c (.int .i64 1)))),
    (.eff [] none (.store 1) [(.o1 (.fld 1) (.t 0)), (.t 23)] [])]) (.block 0 (.loop psAtom_L1)))))))
def psAtom_E : Res := [((some (.c1 (.ldn 3) (.t 4))), (.o1 (.ldn 3) (.t 4)))]
theorem psAtom_C : Tryz.f35.body.bind (comp Tryz.prog psAtom_M Tryz.f35.ntmps) = some psAtom_S := by kernel_rfl
theorem psAtom_R : resE Tryz.prog psAtom_M Tryz.f35.results.toList = some psAtom_E := by kernel_rfl
theorem psAtom_H (G : Ctr) (hG : GOk Tryz.prog G) (a0 : Value) (a1 : Value) {h : H} {K : Value → H → Prop} {KP : List PanicEntry → H → Prop} (Hw : wpS G psAtom_S (retQ psAtom_E (callK K KP)) (envOf 0 [a0, a1] env0) h) : HCX Tryz.prog 35 [a0, a1] h K KP :=
  .inl ⟨by kernel_rfl, hc_of mixed hG Tryz.func35 psAtom_C psAtom_R (of_decide_eq_true (by kernel_rfl)) Hw⟩
def psBegins_M : Nat → Bool := fun i => Nat.testBit 5 i
def psBegins_S : S :=
  (.seq (.sts [(.set 2 (.c (.bool false)))]) (.seq (.sts [(.chk [] (.c2 (.bin .eql) (.t 0) (.c (.int .i64 10)))),
    (.eff [((.o2 (.bin .eql) (.t 0) (.c (.int .i64 10))), false)] (some 7) (.call 40) [(.t 0), (.c (.bool true))] []),
    (.chk [] (.c3 .pick (.o2 (.bin .eql) (.t 0) (.c (.int .i64 10))) (.c (.bool true)) (.t 7))),
    (.set 2 (.o3 .pick (.o2 (.bin .eql) (.t 0) (.c (.int .i64 10))) (.c (.bool true)) (.t 7)))]) .ret))
def psBegins_E : Res := [(none, (.t 2))]
theorem psBegins_C : Tryz.f27.body.bind (comp Tryz.prog psBegins_M Tryz.f27.ntmps) = some psBegins_S := by kernel_rfl
theorem psBegins_R : resE Tryz.prog psBegins_M Tryz.f27.results.toList = some psBegins_E := by kernel_rfl
theorem psBegins_H (G : Ctr) (hG : GOk Tryz.prog G) (a0 : Value) {h : H} {K : Value → H → Prop} {KP : List PanicEntry → H → Prop} (Hw : wpS G psBegins_S (retQ psBegins_E (callK K KP)) (envOf 0 [a0] env0) h) : HCX Tryz.prog 27 [a0] h K KP :=
  .inl ⟨by kernel_rfl, hc_of mixed hG Tryz.func27 psBegins_C psBegins_R (of_decide_eq_true (by kernel_rfl)) Hw⟩
def psOpBeh_M : Nat → Bool := fun i => Nat.testBit 5 i
def psOpBeh_S : S :=
  (.seq (.sts [(.set 2 (.c (.bool false)))]) (.seq (.sts [(.chk [] (.c1 .nilck (.t 0))),
    (.chk [] (.c1 (.fld 1) (.t 0))),
    (.chk [] (.c1 .ld1 (.o1 (.fld 1) (.t 0)))),
    (.chk [] (.c2 (.bin .add) (.o1 .ld1 (.o1 (.fld 1) (.t 0))) (.c (.int .i64 1)))),
    (.chk [] (.c1 .nilck (.t 0))),
    (.chk [] (.c1 (.fld 0) (.t 0))),
    (.chk [] (.c1 .ld1 (.o1 (.fld 0) (.t 0)))),
    (.chk [] (.c1 .len (.o1 .ld1 (.o1 (.fld 0) (.t 0))))),
    (.chk [] (.c2 (.bin .lss) (.o2 (.bin .add) (.o1 .ld1 (.o1 (.fld 1) (.t 0))) (.c (.int .i64 1))) (.o1 .len (.o1 .ld1 (.o1 (.fld 0) (.t 0)))))),
    (.chk [((.o2 (.bin .lss) (.o2 (.bin .add) (.o1 .ld1 (.o1 (.fld 1) (.t 0))) (.c (.int .i64 1))) (.o1 .len (.o1 .ld1 (.o1 (.fld 0) (.t 0))))), true)] (.c1 .nilck (.t 0))),
    (.chk [((.o2 (.bin .lss) (.o2 (.bin .add) (.o1 .ld1 (.o1 (.fld 1) (.t 0))) (.c (.int .i64 1))) (.o1 .len (.o1 .ld1 (.o1 (.fld 0) (.t 0))))), true)] (.c1 (.fld 0) (.t 0))),
    (.chk [((.o2 (.bin .lss) (.o2 (.bin .add) (.o1 .ld1 (.o1 (.fld 1) (.t 0))) (.c (.int .i64 1))) (.o1 .len (.o1 .ld1 (.o1 (.fld 0) (.t 0))))), true)] (.c1 .ld1 (.o1 (.fld 0) (.t 0)))),
    (.chk [((.o2 (.bin .lss) (.o2 (.bin .add) (.o1 .ld1 (.o1 (.fld 1) (.t 0))) (.c (.int .i64 1))) (.o1 .len (.o1 .ld1 (.o1 (.fld 0) (.t 0))))), true)] (.c1 .nilck (.t 0))),
    (.chk [((.o2 (.bin .lss) (.o2 (.bin .add) (.o1 .ld1 (.o1 (.fld 1) (.t 0))) (.c (.int .i64 1))) (.o1 .len (.o1 .ld1 (.o1 (.fld 0) (.t 0))))), true)] (.c1 (.fld 1) (.t 0))),
    (.chk [((.o2 (.bin .lss) (.o2 (.bin .add) (.o1 .ld1 (.o1 (.fld 1) (.t 0))) (.c (.int .i64 1))) (.o1 .len (.o1 .ld1 (.o1 (.fld 0) (.t 0))))), true)] (.c1 .ld1 (.o1 (.fld 1) (.t 0)))),
    (.chk [((.o2 (.bin .lss) (.o2 (.bin .add) (.o1 .ld1 (.o1 (.fld 1) (.t 0))) (.c (.int .i64 1))) (.o1 .len (.o1 .ld1 (.o1 (.fld 0) (.t 0))))), true)] (.c2 (.bin .add) (.o1 .ld1 (.o1 (.fld 1) (.t 0))) (.c (.int .i64 1)))),
    (.chk [((.o2 (.bin .lss) (.o2 (.bin .add) (.o1 .ld1 (.o1 (.fld 1) (.t 0))) (.c (.int .i64 1))) (.o1 .len (.o1 .ld1 (.o1 (.fld 0) (.t 0))))), true)] (.c2 (.idxA 6) (.o1 .ld1 (.o1 (.fld 0) (.t 0))) (.o2 (.bin .add) (.o1 .ld1 (.o1 (.fld 1) (.t 0))) (.c (.int .i64 1))))),
    (.chk [((.o2 (.bin .lss) (.o2 (.bin .add) (.o1 .ld1 (.o1 (.fld 1) (.t 0))) (.c (.int .i64 1))) (.o1 .len (.o1 .ld1 (.o1 (.fld 0) (.t 0))))), true)] (.c1 (.fld 0) (.o2 (.idxA 6) (.o1 .ld1 (.o1 (.fld 0) (.t 0))) (.o2 (.bin .add) (.o1 .ld1 (.o1 (.fld 1) (.t 0))) (.c (.int .i64 1)))))),
    (.chk [((.o2 (.bin .lss) (.o2 (.bin .add) (.o1 .ld1 (.o1 (.fld 1) (.t 0))) (.c (.int .i64 1))) (.o1 .len (.o1 .ld1 (.o1 (.fld 0) (.t 0))))), true)] (.c1 .ld1 (.o1 (.fld 0) (.o2 (.idxA 6) (.o1 .ld1 (.o1 (.fld 0) (.t 0))) (.o2 (.bin .add) (.o1 .ld1 (.o1 (.fld 1) (.t 0))) (.c (.int .i64 1))))))),
    (.chk [((.o2 (.bin .lss) (.o2 (.bin .add) (.o1 .ld1 (.o1 (.fld 1) (.t 0))) (.c (.int .i64 1))) (.o1 .len (.o1 .ld1 (.o1 (.fld 0) (.t 0))))), true)] (.c2 (.bin .eql) (.o1 .ld1 (.o1 (.fld 0) (.o2 (.idxA 6) (.o1 .ld1 (.o1 (.fld 0) (.t 0))) (.o2 (.bin .add) (.o1 .ld1 (.o1 (.fld 1) (.t 0))) (.c (.int .i64 1)))))) (.c (.int .i64 11)))),
    (.chk [] (.c3 .pick (.o2 (.bin .lss) (.o2 (.bin .add) (.o1 .ld1 (.o1 (.fld 1) (.t 0))) (.c (.int .i64 1))) (.o1 .len (.o1 .ld1 (.o1 (.fld 0) (.t 0))))) (.o2 (.bin .eql) (.o1 .ld1 (.o1 (.fld 0) (.o2 (.idxA 6) (.o1 .ld1 (.o1 (.fld 0) (.t 0))) (.o2 (.bin .add) (.o1 .ld1 (.o1 (.fld 1) (.t 0))) (.c (.int .i64 1)))))) (.c (.int .i64 11))) (.c (.bool false)))),
    (.set 2 (.o3 .pick (.o2 (.bin .lss) (.o2 (.bin .add) (.o1 .ld1 (.o1 (.fld 1) (.t 0))) (.c (.int .i64 1))) (.o1 .len (.o1 .ld1 (.o1 (.fld 0) (.t 0))))) (.o2 (.bin .eql) (.o1 .ld1 (.o1 (.fld 0) (.o2 (.idxA 6) (.o1 .ld1 (.o1 (.fld 0) (.t 0))) (.o2 (.bin .add) (.o1 .ld1 (.o1 (.fld 1) (.t 0))) (.c (.int .i64 1)))))) (.c (.int .i64 11))) (.c (.bool false))))]) .ret))
def psOpBeh_E : Res := [(none, (.t 2))]
theorem psOpBeh_C : Tryz.f41.body.bind (comp Tryz.prog psOpBeh_M Tryz.f41.ntmps) = some psOpBeh_S := by kernel_rfl
theorem psOpBeh_R : resE Tryz.prog psOpBeh_M Tryz.f41.results.toList = some psOpBeh_E := by kernel_rfl
theorem psOpBeh_H (G : Ctr) (hG : GOk Tryz.prog G) (a0 : Value) {h : H} {K : Value → H → Prop} {KP : List PanicEntry → H → Prop} (Hw : wpS G psOpBeh_S (retQ psOpBeh_E (callK K KP)) (envOf 0 [a0] env0) h) : HCX Tryz.prog 41 [a0] h K KP :=
  .inl ⟨by kernel_rfl, hc_of mixed hG Tryz.func41 psOpBeh_C psOpBeh_R (of_decide_eq_true (by kernel_rfl)) Hw⟩
def psLit_M : Nat → Bool := fun i => Nat.testBit 536871453 i
def psLit_S : S :=
  (.seq (.sts [(.eff [] (some 2) (.alloc 55 #[(.int .i64 0), (str []), (.slice none 0 0), (.int .i64 0), (.int .i64 0), (.int .i64 0), (.int .i64 0), (str []), (.int .i64 0), (.int .i64 0), (.int .i64 0), (str []), (.int .i64 0), (.int .i64 0)]) [] [])]) (.seq (.sts [(.eff [] (some 6) (.call 20) [(.t 0)] []),
    (.eff [] (some 3) (.alloc 40 #[(.int .i64 0), (str []), (.int .i64 0), (.int .i64 0), (.int .i64 0), (.int .i64 0)]) [] []),
    (.eff [] none (.store 6) [(.t 3), (.t 6)] [])]) (.seq (.seq (.sts [(.chk [] (.c1 (.fld 0) (.t 3))),
    (.chk [] (.c1 .ld1 (.o1 (.fld 0) (.t 3)))),
    (.chk [] (.c2 (.bin .eql) (.o1 .ld1 (.o1 (.fld 0) (.t 3))) (.c (.int .i64 10)))),
    (.set 9 (.o2 (.bin .eql) (.o1 .ld1 (.o1 (.fld 0) (.t 3))) (.c (.int .i64 10))))]) (.cond 9 (.seq (.sts [(.chk [] (.c1 .nilck (.t 0))),
    (.chk [] (.c1 (.fld 1) (.t 0))),
    (.chk [] (.c1 .ld1 (.o1 (.fld 1) (.t 0)))),
    (.chk [] (.c2 (.bin .add) (.o1 .ld1 (.o1 (.fld 1) (.t 0))) (.c (.int .i64 1)))),
    (.chk [] (.c1 .nilck (.t 0))),
    (.chk [] (.c1 (.fld 1) (.t 0))),
    (.set 14 (.o2 (.bin .add) (.o1 .ld1 (.o1 (.fld 1) (.t 0))) (.c (.int .i64 1)))),
    (.eff [] none (.store 1) [(.o1 (.fld 1) (.t 0)), (.t 14)] [])]) (.seq (.sts [(.chk [] (.c1 (.fld 4) (.t 3))),
    (.chk [] (.c1 .ld1 (.o1 (.fld 4) (.t 3)))),
    (.set 20 (.o1 .ld1 (.o1 (.fld 4) (.t 3)))),
    (.eff [] (some 18) (.call 35) [(.t 0), (.c (.bool true))] [([], ((.o1 (.fld 4) (.t 3)), none))]),
    (.chk [] (.cb 14 [(0, (1, (.c (.int .i64 2)))), (1, (3, (.t 18))), (13, (1, (.t 20)))])),
    (.eff [] none (.store 14) [(.t 2), (.o2 (.put 13 1) (.o2 (.put 1 3) (.o2 (.put 0 1) (.c (.agg #[(.int .i64 0), (str []), (.slice none 0 0), (.int .i64 0), (.int .i64 0), (.int .i64 0), (.int .i64 0), (str []), (.int .i64 0), (.int .i64 0), (.int .i64 0), (str []), (.int .i64 0), (.int .i64 0)])) (.c (.int .i64 2))) (.t 18)) (.t 20))] [])]) .ret)) .skip)) (.seq (.seq (.sts [(.chk [] (.c1 (.fld 0) (.t 3))),
    (.chk [] (.c1 .ld1 (.o1 (.fld 0) (.t 3)))),
    (.chk [] (.c2 (.bin .eql) (.o1 .ld1 (.o1 (.fld 0) (.t 3))) (.c (.int .i64 1)))),
    (.set 25 (.o2 (.bin .eql) (.o1 .ld1 (.o1 (.fld 0) (.t 3))) (.c (.int .i64 1)))),
    (.eff [((.t 25), true)] (some 27) (.call 41) [(.t 0)] []),
    (.chk [((.t 25), true)] (.c1 .not (.t 27))),
    (.chk [] (.c3 .pick (.t 25) (.o1 .not (.t 27)) (.c (.bool false)))),
    (.set 29 (.o3 .pick (.t 25) (.o1 .not (.t 27)) (.c (.bool false))))]) (.cond 29 (.seq (.sts [(.chk [] (.c1 (.fld 4) (.t 3))),
    (.chk [] (.c1 .ld1 (.o1 (.fld 4) (.t 3)))),
    (.set 33 (.o1 .ld1 (.o1 (.fld 4) (.t 3)))),
    (.eff [] (some 31) (.call 35) [(.t 0), (.c (.bool true))] [([], ((.o1 (.fld 4) (.t 3)), none))]),
    (.chk [] (.cb 14 [(0, (1, (.c (.int .i64 1)))), (1, (3, (.t 31))), (13, (1, (.t 33)))])),
    (.eff [] none (.store 14) [(.t 2), (.o2 (.put 13 1) (.o2 (.put 1 3) (.o2 (.put 0 1) (.c (.agg #[(.int .i64 0), (str []), (.slice none 0 0), (.int .i64 0), (.int .i64 0), (.int .i64 0), (.int .i64 0), (str []), (.int .i64 0), (.int .i64 0), (.int .i64 0), (str []), (.int .i64 0), (.int .i64 0)])) (.c (.int .i64 1))) (.t 31)) (.t 33))] [])]) .ret) .skip)) (.seq (.join (.seq (.sts [(.chk [] (.c1 (.fld 4) (.t 3)))]) (.seq (.sts [(.chk [] (.c1 .ld1 (.o1 (.fld 4) (.t 3))))]) (.both (.sts [(.set 38 (.o1 .ld1 (.o1 (.fld 4) (.t 3)))),
    (.eff [] (some 36) (.call 42) [(.t 0), (.c (.bool true))] [([], ((.o1 (.fld 4) (.t 3)), none))]),
    (.chk [] (.cb 14 [(0, (1, (.c (.int .i64 3)))), (5, (4, (.t 36))), (13, (1, (.t 38)))])),
    (.eff [] (some 4) (.alloc 55 #[(.int .i64 0), (str []), (.slice none 0 0), (.int .i64 0), (.int .i64 0), (.int .i64 0), (.int .i64 0), (str []), (.int .i64 0), (.int .i64 0), (.int .i64 0), (str []), (.int .i64 0), (.int .i64 0)]) [] [([], ((.o1 (.fld 4) (.t 3)), none))]),
    (.eff [] none (.store 14) [(.t 4), (.o2 (.put 13 1) (.o2 (.put 5 4) (.o2 (.put 0 1) (.c (.agg #[(.int .i64 0), (str []), (.slice none 0 0), (.int .i64 0), (.int .i64 0), (.int .i64 0), (.int .i64 0), (str []), (.int .i64 0), (.int .i64 0), (.int .i64 0), (str []), (.int .i64 0), (.int .i64 0)])) (.c (.int .i64 3))) (.t 36)) (.t 38))] [])]) (.sts [(.set 38 (.o1 .ld1 (.o1 (.fld 4) (.t 3)))),
    (.eff [] (some 4) (.alloc 55 #[(.int .i64 0), (str []), (.slice none 0 0), (.int .i64 0), (.int .i64 0), (.int .i64 0), (.int .i64 0), (str []), (.int .i64 0), (.int .i64 0), (.int .i64 0), (str []), (.int .i64 0), (.int .i64 0)]) [] [([], ((.o1 (.fld 4) (.t 3)), none))]),
    (.eff [] (some 36) (.call 42) [(.t 0), (.c (.bool true))] [([], ((.o1 (.fld 4) (.t 3)), none))]),
    (.chk [] (.cb 14 [(0, (1, (.c (.int .i64 3)))), (5, (4, (.t 36))), (13, (1, (.t 38)))])),
    (.eff [] none (.store 14) [(.t 4), (.o2 (.put 13 1) (.o2 (.put 5 4) (.o2 (.put 0 1) (.c (.agg #[(.int .i64 0), (str []), (.slice none 0 0), (.int .i64 0), (.int .i64 0), (.int .i64 0), (.int .i64 0), (str []), (.int .i64 0), (.int .i64 0), (.int .i64 0), (str []), (.int .i64 0), (.int .i64 0)])) (.c (.int .i64 3))) (.t 36)) (.t 38))] [])]))))) (.seq (.sts [(.eff [] (some 41) (.call 14) [(.t 0), (.c (.int .i64 11))] []),
    (.chk [] (.c1 (.part 3) (.t 41))),
    (.chk [] (.c1 (.fld 4) (.t 4))),
    (.eff [] none (.store 1) [(.o1 (.fld 4) (.t 4)), (.o1 (.part 3) (.t 41))] [])]) (.seq (.sts [(.eff [] (some 45) (.call 42) [(.t 0), (.c (.bool true))] []),
    (.chk [] (.c1 (.fld 9) (.t 4))),
    (.eff [] none (.store 4) [(.o1 (.fld 9) (.t 4)), (.t 45)] [])]) (.seq (.sts [(.chk [] (.c1 (.ldn 14) (.t 4))),
    (.set 47 (.o1 (.ldn 14) (.t 4))),
    (.eff [] none (.store 14) [(.t 2), (.t 47)] [])]) .ret))))))))
def psLit_E : Res := [((some (.c1 (.ldn 14) (.t 2))), (.o1 (.ldn 14) (.t 2)))]
theorem psLit_C : Tryz.f28.body.bind (comp Tryz.prog psLit_M Tryz.f28.ntmps) = some psLit_S := by kernel_rfl
theorem psLit_R : resE Tryz.prog psLit_M Tryz.f28.results.toList = some psLit_E := by kernel_rfl
theorem psLit_H (G : Ctr) (hG : GOk Tryz.prog G) (a0 : Value) {h : H} {K : Value → H → Prop} {KP : List PanicEntry → H → Prop} (Hw : wpS G psLit_S (retQ psLit_E (callK K KP)) (envOf 0 [a0] env0) h) : HCX Tryz.prog 28 [a0] h K KP :=
  .inl ⟨by kernel_rfl, hc_of mixed hG Tryz.func28 psLit_C psLit_R (of_decide_eq_true (by kernel_rfl)) Hw⟩
def psBody_M : Nat → Bool := fun i => Nat.testBit 17217622029 i
def psBody_L1 : S :=
  (.block 1 (.seq (.seq (.sts [(.chk [] (.c1 .len (.t 3))),
    (.chk [] (.c2 (.bin .geq) (.o1 .len (.t 3)) (.c (.int .i64 16)))),
    (.eff [((.o2 (.bin .geq) (.o1 .len (.t 3)) (.c (.int .i64 16))), true)] (some 9) (.call 20) [(.t 0)] []),
    (.chk [((.o2 (.bin .geq) (.o1 .len (.t 3)) (.c (.int .i64 16))), true)] (.c1 (.part 0) (.t 9))),
    (.eff [((.o2 (.bin .geq) (.o1 .len (.t 3)) (.c (.int .i64 16))), true)] (some 11) (.call 27) [(.o1 (.part 0) (.t 9))] []),
    (.chk [] (.c3 .pick (.o2 (.bin .geq) (.o1 .len (.t 3)) (.c (.int .i64 16))) (.t 11) (.c (.bool false)))),
    (.set 12 (.o3 .pick (.o2 (.bin .geq) (.o1 .len (.t 3)) (.c (.int .i64 16))) (.t 11) (.c (.bool false))))]) (.cond 12 (.sts [(.eff [] (some 14) (.call 21) [(.t 0), (.c (.int .i64 23))] [])]) .skip)) (.seq (.sts [(.eff [] (some 17) (.call 28) [(.t 0)] []),
    (.eff [] (some 18) (.bsl 55 14 1 [(.int .i64 0), (str []), (.slice none 0 0), (.int .i64 0), (.int .i64 0), (.int .i64 0), (.int .i64 0), (str []), (.int .i64 0), (.int .i64 0), (.int .i64 0), (str []), (.int .i64 0), (.int .i64 0)] [0]) [(.t 17)] []),
    (.eff [] (some 19) (.app 55 14 152 [(.int .i64 0), (str []), (.slice none 0 0), (.int .i64 0), (.int .i64 0), (.int .i64 0), (.int .i64 0), (str []), (.int .i64 0), (.int .i64 0), (.int .i64 0), (str []), (.int .i64 0), (.int .i64 0)]) [(.t 3), (.t 18)] []),
    (.set 3 (.t 19))]) (.seq (.sts [(.eff [] (some 21) (.call 20) [(.t 0)] []),
    (.chk [] (.c1 (.part 0) (.t 21))),
    (.set 22 (.o1 (.part 0) (.t 21)))]) (.block 2 (.seq (.sts [(.chk [] (.c2 (.bin .eql) (.t 22) (.c (.int .i64 7)))),
    (.set 25 (.o2 (.bin .eql) (.t 22) (.c (.int .i64 7))))]) (.cond 25 (.sts [(.chk [] (.c1 .nilck (.t 0))),
    (.chk [] (.c1 (.fld 1) (.t 0))),
    (.chk [] (.c1 .ld1 (.o1 (.fld 1) (.t 0)))),
    (.chk [] (.c2 (.bin .add) (.o1 .ld1 (.o1 (.fld 1) (.t 0))) (.c (.int .i64 1)))),
    (.chk [] (.c1 .nilck (.t 0))),
    (.chk [] (.c1 (.fld 1) (.t 0))),
    (.set 31 (.o2 (.bin .add) (.o1 .ld1 (.o1 (.fld 1) (.t 0))) (.c (.int .i64 1)))),
    (.eff [] none (.store 1) [(.o1 (.fld 1) (.t 0)), (.t 31)] [])]) (.seq (.sts [(.chk [] (.c2 (.bin .eql) (.t 22) (.c (.int .i64 8)))),
    (.set 34 (.o2 (.bin .eql) (.t 22) (.c (.int .i64 8))))]) (.cond 34 (.seq (.sts [(.chk [] (.c1 .nilck (.t 0))),
    (.chk [] (.c1 (.fld 1) (.t 0))),
    (.chk [] (.c1 .ld1 (.o1 (.fld 1) (.t 0)))),
    (.chk [] (.c2 (.bin .add) (.o1 .ld1 (.o1 (.fld 1) (.t 0))) (.c (.int .i64 1)))),
    (.chk [] (.c1 .nilck (.t 0))),
    (.chk [] (.c1 (.fld 1) (.t 0))),
    (.set 40 (.o2 (.bin .add) (.o1 .ld1 (.o1 (.fld 1) (.t 0))) (.c (.int .i64 1)))),
    (.eff [] none (.store 1) [(.o1 (.fld 1) (.t 0)), (.t 40)] [])]) (.seq (.sts [(.set 2 (.t 3))]) .ret)) (.sts [(.eff [] (some 24) (.call 29) [(.t 0)] [])]))))))))))
def psBody_S : S :=
  (.seq (.sts [(.set 2 (.c (.slice none 0 0)))]) (.seq (.sts [(.set 3 (.c (.slice none 0 0)))]) (.block 0 (.loop psBody_L1))))
def psBody_E : Res := [(none, (.t 2))]
theorem psBody_C : Tryz.f13.body.bind (comp Tryz.prog psBody_M Tryz.f13.ntmps) = some psBody_S := by kernel_rfl
theorem psBody_R : resE Tryz.prog psBody_M Tryz.f13.results.toList = some psBody_E := by kernel_rfl
theorem psBody_H (G : Ctr) (hG : GOk Tryz.prog G) (a0 : Value) {h : H} {K : Value → H → Prop} {KP : List PanicEntry → H → Prop} (Hw : wpS G psBody_S (retQ psBody_E (callK K KP)) (envOf 0 [a0] env0) h) : HCX Tryz.prog 13 [a0] h K KP :=
  .inl ⟨by kernel_rfl, hc_of mixed hG Tryz.func13 psBody_C psBody_R (of_decide_eq_true (by kernel_rfl)) Hw⟩
def psClause_M : Nat → Bool := fun i => Nat.testBit 2101773 i
def psClause_S : S :=
  (.seq (.sts [(.eff [] (some 2) (.alloc 60 #[(str []), (.slice none 0 0), (.int .i64 0), (.slice none 0 0)]) [] [])]) (.seq (.sts [(.eff [] (some 5) (.call 35) [(.t 0), (.c (.bool true))] []),
    (.chk [] (.cb 4 [(0, (3, (.t 5)))])),
    (.eff [] (some 3) (.alloc 60 #[(str []), (.slice none 0 0), (.int .i64 0), (.slice none 0 0)]) [] []),
    (.eff [] none (.store 4) [(.t 3), (.o2 (.put 0 3) (.c (.agg #[(str []), (.slice none 0 0), (.int .i64 0), (.slice none 0 0)])) (.t 5))] [])]) (.seq (.seq (.sts [(.eff [] (some 8) (.call 20) [(.t 0)] []),
    (.chk [] (.c1 (.part 0) (.t 8))),
    (.set 9 (.o1 (.part 0) (.t 8)))]) (.block 0 (.seq (.sts [(.chk [] (.c2 (.bin .eql) (.t 9) (.c (.int .i64 8)))),
    (.set 12 (.o2 (.bin .eql) (.t 9) (.c (.int .i64 8))))]) (.cond 12 (.sts [(.chk [] (.c1 .nilck (.t 0))),
    (.chk [] (.c1 (.fld 1) (.t 0))),
    (.chk [] (.c1 .ld1 (.o1 (.fld 1) (.t 0)))),
    (.chk [] (.c2 (.bin .add) (.o1 .ld1 (.o1 (.fld 1) (.t 0))) (.c (.int .i64 1)))),
    (.chk [] (.c1 .nilck (.t 0))),
    (.chk [] (.c1 (.fld 1) (.t 0))),
    (.set 18 (.o2 (.bin .add) (.o1 .ld1 (.o1 (.fld 1) (.t 0))) (.c (.int .i64 1)))),
    (.eff [] none (.store 1) [(.o1 (.fld 1) (.t 0)), (.t 18)] [])]) (.seq (.sts [(.chk [] (.c2 (.bin .eql) (.t 9) (.c (.int .i64 9)))),
    (.set 21 (.o2 (.bin .eql) (.t 9) (.c (.int .i64 9))))]) (.cond 21 (.seq (.sts [(.chk [] (.c1 .nilck (.t 0))),
    (.chk [] (.c1 (.fld 1) (.t 0))),
    (.chk [] (.c1 .ld1 (.o1 (.fld 1) (.t 0)))),
    (.chk [] (.c2 (.bin .add) (.o1 .ld1 (.o1 (.fld 1) (.t 0))) (.c (.int .i64 1)))),
    (.chk [] (.c1 .nilck (.t 0))),
    (.chk [] (.c1 (.fld 1) (.t 0))),
    (.set 27 (.o2 (.bin .add) (.o1 .ld1 (.o1 (.fld 1) (.t 0))) (.c (.int .i64 1)))),
    (.eff [] none (.store 1) [(.o1 (.fld 1) (.t 0)), (.t 27)] [])]) (.sts [(.eff [] (some 31) (.call 13) [(.t 0)] []),
    (.chk [] (.c1 (.fld 3) (.t 3))),
    (.eff [] none (.store 1) [(.o1 (.fld 3) (.t 3)), (.t 31)] [])])) (.sts [(.eff [] (some 11) (.call 29) [(.t 0)] [])]))))))) (.seq (.sts [(.chk [] (.c1 (.ldn 4) (.t 3))),
    (.set 33 (.o1 (.ldn 4) (.t 3))),
    (.eff [] none (.store 4) [(.t 2), (.t 33)] [])]) .ret))))
def psClause_E : Res := [((some (.c1 (.ldn 4) (.t 2))), (.o1 (.ldn 4) (.t 2)))]
theorem psClause_C : Tryz.f22.body.bind (comp Tryz.prog psClause_M Tryz.f22.ntmps) = some psClause_S := by kernel_rfl
theorem psClause_R : resE Tryz.prog psClause_M Tryz.f22.results.toList = some psClause_E := by kernel_rfl
theorem psClause_H (G : Ctr) (hG : GOk Tryz.prog G) (a0 : Value) {h : H} {K : Value → H → Prop} {KP : List PanicEntry → H → Prop} (Hw : wpS G psClause_S (retQ psClause_E (callK K KP)) (envOf 0 [a0] env0) h) : HCX Tryz.prog 22 [a0] h K KP :=
  .inl ⟨by kernel_rfl, hc_of mixed hG Tryz.func22 psClause_C psClause_R (of_decide_eq_true (by kernel_rfl)) Hw⟩
def psGuarded_M : Nat → Bool := fun i => Nat.testBit 627 i
def psGuarded_S : S :=
  (.seq (.sts [(.eff [] (some 4) (.alloc 25 #[(.int .i64 0), (.int .i64 0), (.int .i64 0)]) [] [])]) (.seq (.seq (.sts [(.chk [] (.c1 .lens (.t 0))),
    (.chk [] (.c2 (.bin .gtr) (.o1 .lens (.t 0)) (.c (.int .i64 65536)))),
    (.set 9 (.o2 (.bin .gtr) (.o1 .lens (.t 0)) (.c (.int .i64 65536))))]) (.cond 9 (.seq (.sts [(.chk [] (.cb 3 [(0, (1, (.c (.int .i64 1))))])),
    (.eff [] none (.store 3) [(.t 4), (.o2 (.put 0 1) (.c (.agg #[(.int .i64 0), (.int .i64 0), (.int .i64 0)])) (.c (.int .i64 1)))] [])]) .ret) .skip)) (.seq (.sts [(.eff [] (some 11) (.mkf (.func 25) 0) [(.t 4)] []),
    (.eff [] none .dead [] [])]) (.seq (.sts [(.eff [] (some 14) (.call 26) [(.t 0)] []),
    (.chk [] (.c1 (.ext 0) (.t 14))),
    (.chk [] (.c1 (.ext 1) (.t 14))),
    (.eff [] (some 6) (.alloc 25 #[(.int .i64 0), (.int .i64 0), (.int .i64 0)]) [] []),
    (.set 5 (.o1 (.ext 0) (.t 14))),
    (.eff [] none (.store 3) [(.t 6), (.o1 (.ext 1) (.t 14))] [])]) (.seq (.sts [(.chk [] (.c1 (.ldn 3) (.t 6))),
    (.chk [] (.cb 5 [(0, (1, (.t 5))), (2, (3, (.o1 (.ldn 3) (.t 6))))])),
    (.set 20 (.o2 (.put 2 3) (.o2 (.put 0 1) (.c (.agg #[(.slice none 0 0), (.int .i64 0), (.int .i64 0), (.int .i64 0), (.int .i64 0)])) (.t 5)) (.o1 (.ldn 3) (.t 6)))),
    (.eff [] (some 21) (.box 69) [(.t 20)] []),
    (.eff [] (some 22) .callv [(.t 1), (.t 21)] [])]) (.seq (.sts [(.chk [] (.cb 3 [])),
    (.eff [] none (.store 3) [(.t 4), (.c (.agg #[(.int .i64 0), (.int .i64 0), (.int .i64 0)]))] [])]) .ret))))))
def psGuarded_E : Res := [((some (.c1 (.ldn 3) (.t 4))), (.o1 (.ldn 3) (.t 4)))]
theorem psGuarded_C : Tryz.f11.body.bind (comp Tryz.prog psGuarded_M Tryz.f11.ntmps) = some psGuarded_S := by kernel_rfl
theorem psGuarded_R : resE Tryz.prog psGuarded_M Tryz.f11.results.toList = some psGuarded_E := by kernel_rfl
theorem psGuarded_H (G : Ctr) (hG : GOk Tryz.prog G) (a0 : Value) (a1 : Value) {h : H} {K : Value → H → Prop} {KP : List PanicEntry → H → Prop} (Hw : wpS G psGuarded_S (retQ psGuarded_E (callK K KP)) (envOf 0 [a0, a1] env0) h) : HCX Tryz.prog 11 [a0, a1] h K KP :=
  .inl ⟨by kernel_rfl, hc_of mixed hG Tryz.func11 psGuarded_C psGuarded_R (of_decide_eq_true (by kernel_rfl)) Hw⟩
def psGuardedY_M : Nat → Bool := fun i => Nat.testBit 8271 i
def psGuardedY_S : S :=
  (.seq (.sts [(.eff [] (some 4) .dead [] []),
    (.set 1 (.t 4))]) (.seq (.seq (.sts [(.chk [] (.c2 (.eqn .iface false) (.t 1) (.c .nilIface))),
    (.set 6 (.o2 (.eqn .iface false) (.t 1) (.c .nilIface)))]) (.cond 6 .ret .skip)) (.seq (.sts [(.eff [] (some 9) .dead [] []),
    (.chk [] (.c1 (.ext 0) (.t 9))),
    (.chk [] (.c1 (.ext 1) (.t 9))),
    (.eff [] (some 2) (.alloc 65 #[(.int .i64 0), (.int .i64 0), (.int .i64 0)]) [] []),
    (.eff [] none (.store 3) [(.t 2), (.o1 (.ext 0) (.t 9))] []),
    (.set 3 (.o1 (.ext 1) (.t 9)))]) (.seq (.seq (.sts [(.chk [] (.c1 .not (.t 3))),
    (.set 13 (.o1 .not (.t 3)))]) (.cond 13 (.sts [(.eff [] none .pnc [(.t 1)] [])]) .skip)) (.sts [(.chk [] (.c1 (.fld 0) (.t 2))),
    (.chk [] (.c1 (.ldn 3) (.o1 (.fld 0) (.t 2)))),
    (.set 16 (.o1 (.ldn 3) (.o1 (.fld 0) (.t 2)))),
    (.eff [] none (.store 3) [(.t 0), (.t 16)] [])])))))
def psGuardedY_E : Res := []
theorem psGuardedY_C : Tryz.f25.body.bind (comp Tryz.prog psGuardedY_M Tryz.f25.ntmps) = some psGuardedY_S := by kernel_rfl
theorem psGuardedY_R : resE Tryz.prog psGuardedY_M Tryz.f25.results.toList = some psGuardedY_E := by kernel_rfl
theorem psGuardedY_H (G : Ctr) (hG : GOk Tryz.prog G) (a0 : Value) {h : H} {K : Value → H → Prop} {KP : List PanicEntry → H → Prop} (Hw : wpS G psGuardedY_S (retQ psGuardedY_E (callK K KP)) (envOf 0 [a0] env0) h) : HCX Tryz.prog 25 [a0] h K KP :=
  .inl ⟨by kernel_rfl, hc_of mixed hG Tryz.func25 psGuardedY_C psGuardedY_R (of_decide_eq_true (by kernel_rfl)) Hw⟩
def psProgramY_M : Nat → Bool := fun i => Nat.testBit 65603 i
def psProgramY_L1 : S :=
  (.seq (.seq (.sts [(.eff [] (some 4) (.call 20) [(.t 0)] []),
    (.chk [] (.c1 (.part 0) (.t 4))),
    (.chk [] (.c2 (.bin .neq) (.o1 (.part 0) (.t 4)) (.c (.int .i64 0)))),
    (.set 6 (.o2 (.bin .neq) (.o1 (.part 0) (.t 4)) (.c (.int .i64 0))))]) (.cond 6 .skip (.exit 0))) (.block 1 (.seq (.seq (.sts [(.chk [] (.c1 (.fld 0) (.t 1))),
    (.chk [] (.c1 .ld1 (.o1 (.fld 0) (.t 1)))),
    (.chk [] (.c1 .len (.o1 .ld1 (.o1 (.fld 0) (.t 1))))),
    (.chk [] (.c2 (.bin .geq) (.o1 .len (.o1 .ld1 (.o1 (.fld 0) (.t 1)))) (.c (.int .i64 512)))),
    (.set 11 (.o2 (.bin .geq) (.o1 .len (.o1 .ld1 (.o1 (.fld 0) (.t 1)))) (.c (.int .i64 512)))),
    (.eff [((.t 11), true)] (some 13) (.call 20) [(.t 0)] []),
    (.chk [((.t 11), true)] (.c1 (.part 0) (.t 13))),
    (.chk [((.t 11), true)] (.c2 (.bin .eql) (.o1 (.part 0) (.t 13)) (.c (.int .i64 1)))),
    (.chk [] (.c3 .pick (.t 11) (.o2 (.bin .eql) (.o1 (.part 0) (.t 13)) (.c (.int .i64 1))) (.c (.bool false)))),
    (.set 16 (.o3 .pick (.t 11) (.o2 (.bin .eql) (.o1 (.part 0) (.t 13)) (.c (.int .i64 1))) (.c (.bool false))))]) (.cond 16 (.sts [(.eff [] (some 18) (.call 21) [(.t 0), (.c (.int .i64 24))] [])]) .skip)) (.sts [(.chk [] (.c1 (.fld 0) (.t 1))),
    (.chk [] (.c1 .ld1 (.o1 (.fld 0) (.t 1)))),
    (.set 20 (.o1 .ld1 (.o1 (.fld 0) (.t 1)))),
    (.eff [] (some 22) (.call 22) [(.t 0)] [([], ((.o1 (.fld 0) (.t 1)), none))]),
    (.eff [] (some 23) (.bsl 60 4 1 [(str []), (.slice none 0 0), (.int .i64 0), (.slice none 0 0)] [0]) [(.t 22)] [([], ((.o1 (.fld 0) (.t 1)), none))]),
    (.eff [] (some 24) (.app 60 4 72 [(str []), (.slice none 0 0), (.int .i64 0), (.slice none 0 0)]) [(.t 20), (.t 23)] []),
    (.chk [] (.c1 (.fld 0) (.t 1))),
    (.eff [] none (.store 1) [(.o1 (.fld 0) (.t 1)), (.t 24)] [])]))))
def psProgramY_S : S :=
  (.block 0 (.loop psProgramY_L1))
def psProgramY_E : Res := []
theorem psProgramY_C : Tryz.f19.body.bind (comp Tryz.prog psProgramY_M Tryz.f19.ntmps) = some psProgramY_S := by kernel_rfl
theorem psProgramY_R : resE Tryz.prog psProgramY_M Tryz.f19.results.toList = some psProgramY_E := by kernel_rfl
theorem psProgramY_H (G : Ctr) (hG : GOk Tryz.prog G) (a0 : Value) (a1 : Value) {h : H} {K : Value → H → Prop} {KP : List PanicEntry → H → Prop} (Hw : wpS G psProgramY_S (retQ psProgramY_E (callK K KP)) (envOf 0 [a0, a1] env0) h) : HCX Tryz.prog 19 [a0, a1] h K KP :=
  .inl ⟨by kernel_rfl, hc_of mixed hG Tryz.func19 psProgramY_C psProgramY_R (of_decide_eq_true (by kernel_rfl)) Hw⟩
def psProgram_M : Nat → Bool := fun i => Nat.testBit 2109 i
def psProgram_S : S :=
  (.seq (.sts [(.eff [] (some 2) (.alloc 32 #[(.slice none 0 0)]) [] []),
    (.eff [] (some 3) (.alloc 25 #[(.int .i64 0), (.int .i64 0), (.int .i64 0)]) [] [])]) (.seq (.sts [(.eff [] (some 4) (.alloc 32 #[(.slice none 0 0)]) [] [])]) (.seq (.sts [(.eff [] (some 7) (.mkf (.func 19) 0) [(.t 4)] []),
    (.eff [] (some 8) (.call 11) [(.t 0), (.t 7)] []),
    (.eff [] (some 5) (.alloc 25 #[(.int .i64 0), (.int .i64 0), (.int .i64 0)]) [] []),
    (.eff [] none (.store 3) [(.t 5), (.t 8)] [])]) (.seq (.seq (.sts [(.chk [] (.c1 (.fld 0) (.t 5))),
    (.chk [] (.c1 .ld1 (.o1 (.fld 0) (.t 5)))),
    (.chk [] (.c2 (.bin .neq) (.o1 .ld1 (.o1 (.fld 0) (.t 5))) (.c (.int .i64 0)))),
    (.set 11 (.o2 (.bin .neq) (.o1 .ld1 (.o1 (.fld 0) (.t 5))) (.c (.int .i64 0))))]) (.cond 11 (.seq (.sts [(.chk [] (.cb 1 [])),
    (.chk [] (.c1 (.ldn 3) (.t 5))),
    (.set 13 (.o1 (.ldn 3) (.t 5))),
    (.eff [] none (.store 1) [(.t 2), (.c (.agg #[(.slice none 0 0)]))] [([], ((.t 5), (some 3)))]),
    (.eff [] none (.store 3) [(.t 3), (.t 13)] [])]) .ret) .skip)) (.seq (.sts [(.chk [] (.c1 (.ldn 1) (.t 4))),
    (.chk [] (.c1 (.ldn 3) (.t 5))),
    (.set 15 (.o1 (.ldn 3) (.t 5))),
    (.set 14 (.o1 (.ldn 1) (.t 4))),
    (.eff [] none (.store 1) [(.t 2), (.t 14)] [([], ((.t 5), (some 3)))]),
    (.eff [] none (.store 3) [(.t 3), (.t 15)] [])]) .ret)))))
def psProgram_E : Res := [((some (.c1 (.ldn 1) (.t 2))), (.o1 (.ldn 1) (.t 2))), ((some (.c1 (.ldn 3) (.t 3))), (.o1 (.ldn 3) (.t 3)))]
theorem psProgram_C : Tryz.f8.body.bind (comp Tryz.prog psProgram_M Tryz.f8.ntmps) = some psProgram_S := by kernel_rfl
theorem psProgram_R : resE Tryz.prog psProgram_M Tryz.f8.results.toList = some psProgram_E := by kernel_rfl
theorem psProgram_H (G : Ctr) (hG : GOk Tryz.prog G) (a0 : Value) {h : H} {K : Value → H → Prop} {KP : List PanicEntry → H → Prop} (Hw : wpS G psProgram_S (retQ psProgram_E (callK K KP)) (envOf 0 [a0] env0) h) : HCX Tryz.prog 8 [a0] h K KP :=
  .inl ⟨by kernel_rfl, hc_of mixed hG Tryz.func8 psProgram_C psProgram_R (of_decide_eq_true (by kernel_rfl)) Hw⟩
def psQueryY_M : Nat → Bool := fun i => Nat.testBit 3 i
def psQueryY_S : S :=
  (.seq (.sts [(.eff [] (some 4) (.call 13) [(.t 0)] []),
    (.eff [] none (.store 1) [(.t 1), (.t 4)] [])]) (.sts [(.eff [] (some 6) (.call 14) [(.t 0), (.c (.int .i64 0))] [])]))
def psQueryY_E : Res := []
theorem psQueryY_C : Tryz.f12.body.bind (comp Tryz.prog psQueryY_M Tryz.f12.ntmps) = some psQueryY_S := by kernel_rfl
theorem psQueryY_R : resE Tryz.prog psQueryY_M Tryz.f12.results.toList = some psQueryY_E := by kernel_rfl
theorem psQueryY_H (G : Ctr) (hG : GOk Tryz.prog G) (a0 : Value) (a1 : Value) {h : H} {K : Value → H → Prop} {KP : List PanicEntry → H → Prop} (Hw : wpS G psQueryY_S (retQ psQueryY_E (callK K KP)) (envOf 0 [a0, a1] env0) h) : HCX Tryz.prog 12 [a0, a1] h K KP :=
  .inl ⟨by kernel_rfl, hc_of mixed hG Tryz.func12 psQueryY_C psQueryY_R (of_decide_eq_true (by kernel_rfl)) Hw⟩
def psQuery_M : Nat → Bool := fun i => Nat.testBit 2109 i
def psQuery_S : S :=
  (.seq (.sts [(.set 2 (.c (.slice none 0 0))),
    (.eff [] (some 3) (.alloc 25 #[(.int .i64 0), (.int .i64 0), (.int .i64 0)]) [] [])]) (.seq (.sts [(.eff [] (some 4) (.alloc 22 #[(.slice none 0 0)]) [] [])]) (.seq (.sts [(.eff [] (some 7) (.mkf (.func 12) 0) [(.t 4)] []),
    (.eff [] (some 8) (.call 11) [(.t 0), (.t 7)] []),
    (.eff [] (some 5) (.alloc 25 #[(.int .i64 0), (.int .i64 0), (.int .i64 0)]) [] []),
    (.eff [] none (.store 3) [(.t 5), (.t 8)] [])]) (.seq (.seq (.sts [(.chk [] (.c1 (.fld 0) (.t 5))),
    (.chk [] (.c1 .ld1 (.o1 (.fld 0) (.t 5)))),
    (.chk [] (.c2 (.bin .neq) (.o1 .ld1 (.o1 (.fld 0) (.t 5))) (.c (.int .i64 0)))),
    (.set 11 (.o2 (.bin .neq) (.o1 .ld1 (.o1 (.fld 0) (.t 5))) (.c (.int .i64 0))))]) (.cond 11 (.seq (.sts [(.chk [] (.c1 (.ldn 3) (.t 5))),
    (.set 2 (.c (.slice none 0 0))),
    (.set 12 (.o1 (.ldn 3) (.t 5))),
    (.eff [] none (.store 3) [(.t 3), (.t 12)] [])]) .ret) .skip)) (.seq (.sts [(.chk [] (.c1 .ld1 (.t 4))),
    (.chk [] (.c1 (.ldn 3) (.t 5))),
    (.set 2 (.o1 .ld1 (.t 4))),
    (.set 14 (.o1 (.ldn 3) (.t 5))),
    (.eff [] none (.store 3) [(.t 3), (.t 14)] [])]) .ret)))))
def psQuery_E : Res := [(none, (.t 2)), ((some (.c1 (.ldn 3) (.t 3))), (.o1 (.ldn 3) (.t 3)))]
theorem psQuery_C : Tryz.f5.body.bind (comp Tryz.prog psQuery_M Tryz.f5.ntmps) = some psQuery_S := by kernel_rfl
theorem psQuery_R : resE Tryz.prog psQuery_M Tryz.f5.results.toList = some psQuery_E := by kernel_rfl
theorem psQuery_H (G : Ctr) (hG : GOk Tryz.prog G) (a0 : Value) {h : H} {K : Value → H → Prop} {KP : List PanicEntry → H → Prop} (Hw : wpS G psQuery_S (retQ psQuery_E (callK K KP)) (envOf 0 [a0] env0) h) : HCX Tryz.prog 5 [a0] h K KP :=
  .inl ⟨by kernel_rfl, hc_of mixed hG Tryz.func5 psQuery_C psQuery_R (of_decide_eq_true (by kernel_rfl)) Hw⟩
end Go.Proofs.YtmnfhmbmifompaaGreatDoor
