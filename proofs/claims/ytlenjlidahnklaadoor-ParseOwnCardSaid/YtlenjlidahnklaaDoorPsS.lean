/- The small statements of functions of the program, as the closed computation gives them (written by a program of ours; checked by the kernel below). -/
import Derived.Test.YtlenjlidahnklaaDoorEvB
import Derived.Test.YtlenjlidahnklaaDoorProg
import Derived.KernelRfl
import Derived.Test.YtlenjlidahnklaaDoorTokS
namespace Go.Proofs.YtlenjlidahnklaaDoor
open Go Go.Ev
def psPeek_M : Nat → Bool := fun i => Nat.testBit 4101 i
def psPeek_S : S :=
  (.seq (.sts [(.eff [] (some 2) (.alloc 80 #[(.int .i64 0), (str []), (.int .i64 0), (.int .i64 0), (.int .i64 0), (.int .i64 0)]) [] [])]) (.seq (.seq (.sts [(.chk [] (.c1 .nilck (.t 0))),
    (.chk [] (.c1 (.fld 1) (.t 0))),
    (.chk [] (.c1 .ld1 (.o1 (.fld 1) (.t 0)))),
    (.chk [] (.c1 .nilck (.t 0))),
    (.chk [] (.c1 (.fld 0) (.t 0))),
    (.chk [] (.c1 .ld1 (.o1 (.fld 0) (.t 0)))),
    (.chk [] (.c1 .len (.o1 .ld1 (.o1 (.fld 0) (.t 0))))),
    (.chk [] (.c2 (.bin .geq) (.o1 .ld1 (.o1 (.fld 1) (.t 0))) (.o1 .len (.o1 .ld1 (.o1 (.fld 0) (.t 0)))))),
    (.set 12 (.o2 (.bin .geq) (.o1 .ld1 (.o1 (.fld 1) (.t 0))) (.o1 .len (.o1 .ld1 (.o1 (.fld 0) (.t 0))))))]) (.cond 12 (.sts [(.chk [] (.c1 .nilck (.t 0))),
    (.chk [] (.c1 (.fld 2) (.t 0))),
    (.chk [] (.c1 (.fld 0) (.o1 (.fld 2) (.t 0)))),
    (.chk [] (.c1 .ld1 (.o1 (.fld 0) (.o1 (.fld 2) (.t 0))))),
    (.chk [] (.c1 .nilck (.t 0))),
    (.chk [] (.c1 (.fld 2) (.t 0))),
    (.chk [] (.c1 (.fld 2) (.o1 (.fld 2) (.t 0)))),
    (.chk [] (.c1 .ld1 (.o1 (.fld 2) (.o1 (.fld 2) (.t 0))))),
    (.chk [] (.cb 3 [(0, (1, (.o1 .ld1 (.o1 (.fld 0) (.o1 (.fld 2) (.t 0)))))), (2, (1, (.o1 .ld1 (.o1 (.fld 2) (.o1 (.fld 2) (.t 0))))))])),
    (.chk [] (.cb 3 [(0, (3, (.o2 (.put 2 1) (.o2 (.put 0 1) (.c (.agg #[(.int .i64 0), (.int .i64 0), (.int .i64 0)])) (.o1 .ld1 (.o1 (.fld 0) (.o1 (.fld 2) (.t 0))))) (.o1 .ld1 (.o1 (.fld 2) (.o1 (.fld 2) (.t 0)))))))])),
    (.chk [] (.c1 (.mki 90) (.o2 (.put 0 3) (.c (.agg #[(.int .i64 0), (.int .i64 0), (.int .i64 0)])) (.o2 (.put 2 1) (.o2 (.put 0 1) (.c (.agg #[(.int .i64 0), (.int .i64 0), (.int .i64 0)])) (.o1 .ld1 (.o1 (.fld 0) (.o1 (.fld 2) (.t 0))))) (.o1 .ld1 (.o1 (.fld 2) (.o1 (.fld 2) (.t 0)))))))),
    (.set 25 (.o1 (.mki 90) (.o2 (.put 0 3) (.c (.agg #[(.int .i64 0), (.int .i64 0), (.int .i64 0)])) (.o2 (.put 2 1) (.o2 (.put 0 1) (.c (.agg #[(.int .i64 0), (.int .i64 0), (.int .i64 0)])) (.o1 .ld1 (.o1 (.fld 0) (.o1 (.fld 2) (.t 0))))) (.o1 .ld1 (.o1 (.fld 2) (.o1 (.fld 2) (.t 0)))))))),
    (.eff [] none .pnc [(.t 25)] [])]) .skip)) (.seq (.sts [(.chk [] (.c1 .nilck (.t 0))),
    (.chk [] (.c1 (.fld 0) (.t 0))),
    (.chk [] (.c1 .ld1 (.o1 (.fld 0) (.t 0)))),
    (.chk [] (.c1 .nilck (.t 0))),
    (.chk [] (.c1 (.fld 1) (.t 0))),
    (.chk [] (.c1 .ld1 (.o1 (.fld 1) (.t 0)))),
    (.chk [] (.c2 (.idxA 6) (.o1 .ld1 (.o1 (.fld 0) (.t 0))) (.o1 .ld1 (.o1 (.fld 1) (.t 0))))),
    (.chk [] (.c1 (.ldn 6) (.o2 (.idxA 6) (.o1 .ld1 (.o1 (.fld 0) (.t 0))) (.o1 .ld1 (.o1 (.fld 1) (.t 0)))))),
    (.set 35 (.o1 (.ldn 6) (.o2 (.idxA 6) (.o1 .ld1 (.o1 (.fld 0) (.t 0))) (.o1 .ld1 (.o1 (.fld 1) (.t 0)))))),
    (.set 34 (.o2 (.idxA 6) (.o1 .ld1 (.o1 (.fld 0) (.t 0))) (.o1 .ld1 (.o1 (.fld 1) (.t 0))))),
    (.eff [] none (.store 6) [(.t 2), (.t 35)] [])]) .ret)))
def psPeek_E : Res := [((some (.c1 (.ldn 6) (.t 2))), (.o1 (.ldn 6) (.t 2)))]
theorem psPeek_C : Tryd.f27.body.bind (comp Tryd.prog psPeek_M Tryd.f27.ntmps) = some psPeek_S := by kernel_rfl
theorem psPeek_R : resE Tryd.prog psPeek_M Tryd.f27.results.toList = some psPeek_E := by kernel_rfl
theorem psPeek_H (G : Ctr) (hG : GOk Tryd.prog G) (a0 : Value) {h : H} {K : Value → H → Prop} {KP : List PanicEntry → H → Prop} (Hw : wpS G psPeek_S (retQ psPeek_E (callK K KP)) (envOf 0 [a0] env0) h) : HCX Tryd.prog 27 [a0] h K KP :=
  .inl ⟨by kernel_rfl, hc_of mixed hG Tryd.func27 psPeek_C psPeek_R (of_decide_eq_true (by kernel_rfl)) Hw⟩
def psStop_M : Nat → Bool := fun i => Nat.testBit 3 i
def psStop_S : S :=
  (.sts [(.eff [] (some 6) (.call 27) [(.t 0)] []),
    (.chk [] (.c1 (.part 4) (.t 6))),
    (.chk [] (.cb 3 [(0, (1, (.t 1))), (2, (1, (.o1 (.part 4) (.t 6))))])),
    (.chk [] (.cb 3 [(0, (3, (.o2 (.put 2 1) (.o2 (.put 0 1) (.c (.agg #[(.int .i64 0), (.int .i64 0), (.int .i64 0)])) (.t 1)) (.o1 (.part 4) (.t 6)))))])),
    (.chk [] (.c1 (.mki 90) (.o2 (.put 0 3) (.c (.agg #[(.int .i64 0), (.int .i64 0), (.int .i64 0)])) (.o2 (.put 2 1) (.o2 (.put 0 1) (.c (.agg #[(.int .i64 0), (.int .i64 0), (.int .i64 0)])) (.t 1)) (.o1 (.part 4) (.t 6)))))),
    (.eff [] none .pnc [(.o1 (.mki 90) (.o2 (.put 0 3) (.c (.agg #[(.int .i64 0), (.int .i64 0), (.int .i64 0)])) (.o2 (.put 2 1) (.o2 (.put 0 1) (.c (.agg #[(.int .i64 0), (.int .i64 0), (.int .i64 0)])) (.t 1)) (.o1 (.part 4) (.t 6)))))] [])])
def psStop_E : Res := []
theorem psStop_C : Tryd.f28.body.bind (comp Tryd.prog psStop_M Tryd.f28.ntmps) = some psStop_S := by kernel_rfl
theorem psStop_R : resE Tryd.prog psStop_M Tryd.f28.results.toList = some psStop_E := by kernel_rfl
theorem psStop_H (G : Ctr) (hG : GOk Tryd.prog G) (a0 : Value) (a1 : Value) {h : H} {K : Value → H → Prop} {KP : List PanicEntry → H → Prop} (Hw : wpS G psStop_S (retQ psStop_E (callK K KP)) (envOf 0 [a0, a1] env0) h) : HCX Tryd.prog 28 [a0, a1] h K KP :=
  .inl ⟨by kernel_rfl, hc_of mixed hG Tryd.func28 psStop_C psStop_R (of_decide_eq_true (by kernel_rfl)) Hw⟩
def psRefuse_M : Nat → Bool := fun i => Nat.testBit 33 i
def psRefuse_S : S :=
  (.seq (.seq (.sts [(.eff [] (some 3) (.call 27) [(.t 0)] []),
    (.chk [] (.c1 (.part 0) (.t 3))),
    (.chk [] (.c2 (.bin .eql) (.o1 (.part 0) (.t 3)) (.c (.int .i64 0)))),
    (.set 5 (.o2 (.bin .eql) (.o1 (.part 0) (.t 3)) (.c (.int .i64 0))))]) (.cond 5 (.sts [(.eff [] (some 7) (.call 28) [(.t 0), (.c (.int .i64 21))] [])]) .skip)) (.sts [(.eff [] (some 9) (.call 28) [(.t 0), (.c (.int .i64 20))] [])]))
def psRefuse_E : Res := []
theorem psRefuse_C : Tryd.f39.body.bind (comp Tryd.prog psRefuse_M Tryd.f39.ntmps) = some psRefuse_S := by kernel_rfl
theorem psRefuse_R : resE Tryd.prog psRefuse_M Tryd.f39.results.toList = some psRefuse_E := by kernel_rfl
theorem psRefuse_H (G : Ctr) (hG : GOk Tryd.prog G) (a0 : Value) {h : H} {K : Value → H → Prop} {KP : List PanicEntry → H → Prop} (Hw : wpS G psRefuse_S (retQ psRefuse_E (callK K KP)) (envOf 0 [a0] env0) h) : HCX Tryd.prog 39 [a0] h K KP :=
  .inl ⟨by kernel_rfl, hc_of mixed hG Tryd.func39 psRefuse_C psRefuse_R (of_decide_eq_true (by kernel_rfl)) Hw⟩
def psTake_M : Nat → Bool := fun i => Nat.testBit 34867 i
def psTake_S : S :=
  (.seq (.sts [(.eff [] (some 4) (.alloc 80 #[(.int .i64 0), (str []), (.int .i64 0), (.int .i64 0), (.int .i64 0), (.int .i64 0)]) [] [])]) (.seq (.sts [(.eff [] (some 7) (.call 27) [(.t 0)] []),
    (.eff [] (some 5) (.alloc 80 #[(.int .i64 0), (str []), (.int .i64 0), (.int .i64 0), (.int .i64 0), (.int .i64 0)]) [] []),
    (.eff [] none (.store 6) [(.t 5), (.t 7)] [])]) (.seq (.seq (.sts [(.chk [] (.c1 (.fld 0) (.t 5))),
    (.chk [] (.c1 .ld1 (.o1 (.fld 0) (.t 5)))),
    (.chk [] (.c2 (.bin .neq) (.o1 .ld1 (.o1 (.fld 0) (.t 5))) (.t 1))),
    (.set 11 (.o2 (.bin .neq) (.o1 .ld1 (.o1 (.fld 0) (.t 5))) (.t 1)))]) (.cond 11 (.sts [(.eff [] (some 13) (.call 39) [(.t 0)] [])]) .skip)) (.seq (.seq (.sts [(.chk [] (.c2 (.bin .neq) (.t 1) (.c (.int .i64 0)))),
    (.set 15 (.o2 (.bin .neq) (.t 1) (.c (.int .i64 0))))]) (.cond 15 (.sts [(.chk [] (.c1 .nilck (.t 0))),
    (.chk [] (.c1 (.fld 1) (.t 0))),
    (.chk [] (.c1 .ld1 (.o1 (.fld 1) (.t 0)))),
    (.chk [] (.c2 (.bin .add) (.o1 .ld1 (.o1 (.fld 1) (.t 0))) (.c (.int .i64 1)))),
    (.chk [] (.c1 .nilck (.t 0))),
    (.chk [] (.c1 (.fld 1) (.t 0))),
    (.set 20 (.o2 (.bin .add) (.o1 .ld1 (.o1 (.fld 1) (.t 0))) (.c (.int .i64 1)))),
    (.eff [] none (.store 1) [(.o1 (.fld 1) (.t 0)), (.t 20)] [])]) .skip)) (.seq (.sts [(.chk [] (.c1 (.ldn 6) (.t 5))),
    (.set 23 (.o1 (.ldn 6) (.t 5))),
    (.eff [] none (.store 6) [(.t 4), (.t 23)] [])]) .ret)))))
def psTake_E : Res := [((some (.c1 (.ldn 6) (.t 4))), (.o1 (.ldn 6) (.t 4)))]
theorem psTake_C : Tryd.f32.body.bind (comp Tryd.prog psTake_M Tryd.f32.ntmps) = some psTake_S := by kernel_rfl
theorem psTake_R : resE Tryd.prog psTake_M Tryd.f32.results.toList = some psTake_E := by kernel_rfl
theorem psTake_H (G : Ctr) (hG : GOk Tryd.prog G) (a0 : Value) (a1 : Value) {h : H} {K : Value → H → Prop} {KP : List PanicEntry → H → Prop} (Hw : wpS G psTake_S (retQ psTake_E (callK K KP)) (envOf 0 [a0, a1] env0) h) : HCX Tryd.prog 32 [a0, a1] h K KP :=
  .inl ⟨by kernel_rfl, hc_of mixed hG Tryd.func32 psTake_C psTake_R (of_decide_eq_true (by kernel_rfl)) Hw⟩
def psIsTerm_M : Nat → Bool := fun i => Nat.testBit 1139 i
def psIsTerm_S : S :=
  (.seq (.sts [(.set 4 (.c (.bool false)))]) (.seq (.seq (.sts [(.set 5 (.t 0))]) (.block 0 (.seq (.seq (.sts [(.chk [] (.c2 (.bin .eql) (.t 5) (.c (.int .i64 1)))),
    (.set 6 (.o2 (.bin .eql) (.t 5) (.c (.int .i64 1))))]) (.cond 6 .skip (.seq (.sts [(.chk [] (.c2 (.bin .eql) (.t 5) (.c (.int .i64 3)))),
    (.set 6 (.o2 (.bin .eql) (.t 5) (.c (.int .i64 3))))]) (.cond 6 .skip (.sts [(.chk [] (.c2 (.bin .eql) (.t 5) (.c (.int .i64 4)))),
    (.set 6 (.o2 (.bin .eql) (.t 5) (.c (.int .i64 4))))]))))) (.cond 6 (.seq (.sts [(.set 4 (.c (.bool true)))]) .ret) (.seq (.sts [(.chk [] (.c2 (.bin .eql) (.t 5) (.c (.int .i64 2)))),
    (.set 10 (.o2 (.bin .eql) (.t 5) (.c (.int .i64 2))))]) (.cond 10 (.seq (.sts [(.set 4 (.t 1))]) .ret) .skip)))))) (.seq (.sts [(.set 4 (.c (.bool false)))]) .ret)))
def psIsTerm_E : Res := [(none, (.t 4))]
theorem psIsTerm_C : Tryd.f42.body.bind (comp Tryd.prog psIsTerm_M Tryd.f42.ntmps) = some psIsTerm_S := by kernel_rfl
theorem psIsTerm_R : resE Tryd.prog psIsTerm_M Tryd.f42.results.toList = some psIsTerm_E := by kernel_rfl
theorem psIsTerm_H (G : Ctr) (hG : GOk Tryd.prog G) (a0 : Value) (a1 : Value) {h : H} {K : Value → H → Prop} {KP : List PanicEntry → H → Prop} (Hw : wpS G psIsTerm_S (retQ psIsTerm_E (callK K KP)) (envOf 0 [a0, a1] env0) h) : HCX Tryd.prog 42 [a0, a1] h K KP :=
  .inl ⟨by kernel_rfl, hc_of mixed hG Tryd.func42 psIsTerm_C psIsTerm_R (of_decide_eq_true (by kernel_rfl)) Hw⟩
def psTerm_M : Nat → Bool := fun i => Nat.testBit 1238561202291 i
def psTerm_S : S :=
  (.seq (.sts [(.eff [] (some 4) (.alloc 72 #[(.int .i64 0), (.int .i64 0), (str []), (.int .i64 0)]) [] [])]) (.seq (.sts [(.eff [] (some 8) (.call 27) [(.t 0)] []),
    (.eff [] (some 5) (.alloc 80 #[(.int .i64 0), (str []), (.int .i64 0), (.int .i64 0), (.int .i64 0), (.int .i64 0)]) [] []),
    (.eff [] none (.store 6) [(.t 5), (.t 8)] [])]) (.seq (.seq (.sts [(.chk [] (.c1 (.fld 0) (.t 5))),
    (.chk [] (.c1 .ld1 (.o1 (.fld 0) (.t 5)))),
    (.set 10 (.o1 .ld1 (.o1 (.fld 0) (.t 5)))),
    (.eff [] (some 12) (.call 42) [(.t 10), (.t 1)] []),
    (.chk [] (.c1 .not (.t 12))),
    (.set 13 (.o1 .not (.t 12)))]) (.cond 13 (.sts [(.eff [] (some 15) (.call 39) [(.t 0)] [])]) .skip)) (.seq (.sts [(.chk [] (.c1 .nilck (.t 0))),
    (.chk [] (.c1 (.fld 1) (.t 0))),
    (.chk [] (.c1 .ld1 (.o1 (.fld 1) (.t 0)))),
    (.chk [] (.c2 (.bin .add) (.o1 .ld1 (.o1 (.fld 1) (.t 0))) (.c (.int .i64 1)))),
    (.chk [] (.c1 .nilck (.t 0))),
    (.chk [] (.c1 (.fld 1) (.t 0))),
    (.set 20 (.o2 (.bin .add) (.o1 .ld1 (.o1 (.fld 1) (.t 0))) (.c (.int .i64 1)))),
    (.eff [] none (.store 1) [(.o1 (.fld 1) (.t 0)), (.t 20)] [])]) (.seq (.sts [(.chk [] (.c1 (.fld 1) (.t 5))),
    (.chk [] (.c1 .ld1 (.o1 (.fld 1) (.t 5)))),
    (.chk [] (.c1 (.fld 4) (.t 5))),
    (.chk [] (.c1 .ld1 (.o1 (.fld 4) (.t 5)))),
    (.chk [] (.cb 4 [(0, (1, (.c (.int .i64 4)))), (2, (1, (.o1 .ld1 (.o1 (.fld 1) (.t 5))))), (3, (1, (.o1 .ld1 (.o1 (.fld 4) (.t 5)))))])),
    (.set 27 (.o2 (.put 3 1) (.o2 (.put 2 1) (.o2 (.put 0 1) (.c (.agg #[(.int .i64 0), (.int .i64 0), (str []), (.int .i64 0)])) (.c (.int .i64 4))) (.o1 .ld1 (.o1 (.fld 1) (.t 5)))) (.o1 .ld1 (.o1 (.fld 4) (.t 5))))),
    (.eff [] (some 6) (.alloc 72 #[(.int .i64 0), (.int .i64 0), (str []), (.int .i64 0)]) [] []),
    (.eff [] none (.store 4) [(.t 6), (.t 27)] [])]) (.seq (.seq (.sts [(.chk [] (.c1 (.fld 0) (.t 5))),
    (.chk [] (.c1 .ld1 (.o1 (.fld 0) (.t 5)))),
    (.set 29 (.o1 .ld1 (.o1 (.fld 0) (.t 5))))]) (.block 0 (.seq (.sts [(.chk [] (.c2 (.bin .eql) (.t 29) (.c (.int .i64 3)))),
    (.set 30 (.o2 (.bin .eql) (.t 29) (.c (.int .i64 3))))]) (.cond 30 (.sts [(.chk [] (.c1 (.fld 2) (.t 5))),
    (.chk [] (.c1 .ld1 (.o1 (.fld 2) (.t 5)))),
    (.chk [] (.c1 (.fld 0) (.t 6))),
    (.set 33 (.o1 .ld1 (.o1 (.fld 2) (.t 5)))),
    (.eff [] none (.store 1) [(.o1 (.fld 0) (.t 6)), (.c (.int .i64 1))] [([], ((.o1 (.fld 2) (.t 5)), none))]),
    (.chk [] (.c1 (.fld 1) (.t 6))),
    (.eff [] none (.store 1) [(.o1 (.fld 1) (.t 6)), (.t 33)] []),
    (.chk [] (.c1 (.fld 2) (.t 6))),
    (.eff [] none (.store 1) [(.o1 (.fld 2) (.t 6)), (.c (str []))] [])]) (.seq (.sts [(.chk [] (.c2 (.bin .eql) (.t 29) (.c (.int .i64 1)))),
    (.set 37 (.o2 (.bin .eql) (.t 29) (.c (.int .i64 1))))]) (.cond 37 (.sts [(.chk [] (.c1 (.fld 0) (.t 6))),
    (.eff [] none (.store 1) [(.o1 (.fld 0) (.t 6)), (.c (.int .i64 2))] [])]) (.seq (.sts [(.chk [] (.c2 (.bin .eql) (.t 29) (.c (.int .i64 4)))),
    (.set 40 (.o2 (.bin .eql) (.t 29) (.c (.int .i64 4))))]) (.cond 40 (.sts [(.chk [] (.c1 (.fld 0) (.t 6))),
    (.eff [] none (.store 1) [(.o1 (.fld 0) (.t 6)), (.c (.int .i64 3))] [])]) .skip)))))))) (.seq (.sts [(.chk [] (.c1 (.ldn 4) (.t 6))),
    (.set 43 (.o1 (.ldn 4) (.t 6))),
    (.eff [] none (.store 4) [(.t 4), (.t 43)] [])]) .ret)))))))
def psTerm_E : Res := [((some (.c1 (.ldn 4) (.t 4))), (.o1 (.ldn 4) (.t 4)))]
theorem psTerm_C : Tryd.f43.body.bind (comp Tryd.prog psTerm_M Tryd.f43.ntmps) = some psTerm_S := by kernel_rfl
theorem psTerm_R : resE Tryd.prog psTerm_M Tryd.f43.results.toList = some psTerm_E := by kernel_rfl
theorem psTerm_H (G : Ctr) (hG : GOk Tryd.prog G) (a0 : Value) (a1 : Value) {h : H} {K : Value → H → Prop} {KP : List PanicEntry → H → Prop} (Hw : wpS G psTerm_S (retQ psTerm_E (callK K KP)) (envOf 0 [a0, a1] env0) h) : HCX Tryd.prog 43 [a0, a1] h K KP :=
  .inl ⟨by kernel_rfl, hc_of mixed hG Tryd.func43 psTerm_C psTerm_R (of_decide_eq_true (by kernel_rfl)) Hw⟩
def psAtom_M : Nat → Bool := fun i => Nat.testBit 2310909627514093683 i
def psAtom_L1 : S :=
  (.block 1 (.seq (.seq (.sts [(.chk [] (.c1 (.fld 1) (.t 6))),
    (.chk [] (.c1 .ld1 (.o1 (.fld 1) (.t 6)))),
    (.chk [] (.c1 .len (.o1 .ld1 (.o1 (.fld 1) (.t 6))))),
    (.chk [] (.c2 (.bin .geq) (.o1 .len (.o1 .ld1 (.o1 (.fld 1) (.t 6)))) (.c (.int .i64 8)))),
    (.set 30 (.o2 (.bin .geq) (.o1 .len (.o1 .ld1 (.o1 (.fld 1) (.t 6)))) (.c (.int .i64 8)))),
    (.eff [((.t 30), true)] (some 32) (.call 27) [(.t 0)] []),
    (.chk [((.t 30), true)] (.c1 (.part 0) (.t 32))),
    (.eff [((.t 30), true)] (some 35) (.call 42) [(.o1 (.part 0) (.t 32)), (.t 1)] []),
    (.chk [] (.c3 .pick (.t 30) (.t 35) (.c (.bool false)))),
    (.set 36 (.o3 .pick (.t 30) (.t 35) (.c (.bool false))))]) (.cond 36 (.sts [(.eff [] (some 38) (.call 28) [(.t 0), (.c (.int .i64 22))] [])]) .skip)) (.seq (.sts [(.chk [] (.c1 (.fld 1) (.t 6))),
    (.chk [] (.c1 .ld1 (.o1 (.fld 1) (.t 6)))),
    (.set 40 (.o1 .ld1 (.o1 (.fld 1) (.t 6)))),
    (.eff [] (some 43) (.call 43) [(.t 0), (.t 1)] [([], ((.o1 (.fld 1) (.t 6)), none))]),
    (.eff [] (some 44) (.bsl 72 4 1 [(.int .i64 0), (.int .i64 0), (str []), (.int .i64 0)] [0]) [(.t 43)] [([], ((.o1 (.fld 1) (.t 6)), none))]),
    (.eff [] (some 45) (.app 72 4 40 [(.int .i64 0), (.int .i64 0), (str []), (.int .i64 0)]) [(.t 40), (.t 44)] []),
    (.chk [] (.c1 (.fld 1) (.t 6))),
    (.eff [] none (.store 1) [(.o1 (.fld 1) (.t 6)), (.t 45)] [])]) (.seq (.sts [(.eff [] (some 48) (.call 27) [(.t 0)] []),
    (.chk [] (.c1 (.part 0) (.t 48))),
    (.set 49 (.o1 (.part 0) (.t 48)))]) (.block 2 (.seq (.sts [(.chk [] (.c2 (.bin .eql) (.t 49) (.c (.int .i64 7)))),
    (.set 52 (.o2 (.bin .eql) (.t 49) (.c (.int .i64 7))))]) (.cond 52 (.sts [(.chk [] (.c1 .nilck (.t 0))),
    (.chk [] (.c1 (.fld 1) (.t 0))),
    (.chk [] (.c1 .ld1 (.o1 (.fld 1) (.t 0)))),
    (.chk [] (.c2 (.bin .add) (.o1 .ld1 (.o1 (.fld 1) (.t 0))) (.c (.int .i64 1)))),
    (.chk [] (.c1 .nilck (.t 0))),
    (.chk [] (.c1 (.fld 1) (.t 0))),
    (.set 58 (.o2 (.bin .add) (.o1 .ld1 (.o1 (.fld 1) (.t 0))) (.c (.int .i64 1)))),
    (.eff [] none (.store 1) [(.o1 (.fld 1) (.t 0)), (.t 58)] [])]) (.seq (.sts [(.chk [] (.c2 (.bin .eql) (.t 49) (.c (.int .i64 6)))),
    (.set 61 (.o2 (.bin .eql) (.t 49) (.c (.int .i64 6))))]) (.cond 61 (.seq (.sts [(.chk [] (.c1 .nilck (.t 0))),
    (.chk [] (.c1 (.fld 1) (.t 0))),
    (.chk [] (.c1 .ld1 (.o1 (.fld 1) (.t 0)))),
    (.chk [] (.c2 (.bin .add) (.o1 .ld1 (.o1 (.fld 1) (.t 0))) (.c (.int .i64 1)))),
    (.chk [] (.c1 .nilck (.t 0))),
    (.chk [] (.c1 (.fld 1) (.t 0))),
    (.set 67 (.o2 (.bin .add) (.o1 .ld1 (.o1 (.fld 1) (.t 0))) (.c (.int .i64 1)))),
    (.eff [] none (.store 1) [(.o1 (.fld 1) (.t 0)), (.t 67)] [])]) (.seq (.sts [(.chk [] (.c1 (.ldn 3) (.t 6))),
    (.set 70 (.o1 (.ldn 3) (.t 6))),
    (.eff [] none (.store 3) [(.t 4), (.t 70)] [])]) .ret)) (.sts [(.eff [] (some 51) (.call 39) [(.t 0)] [])]))))))))))
def psAtom_S : S :=
  (.seq (.sts [(.eff [] (some 4) (.alloc 60 #[(str []), (.slice none 0 0), (.int .i64 0)]) [] [])]) (.seq (.sts [(.eff [] (some 8) (.call 32) [(.t 0), (.c (.int .i64 1))] []),
    (.eff [] (some 5) (.alloc 80 #[(.int .i64 0), (str []), (.int .i64 0), (.int .i64 0), (.int .i64 0), (.int .i64 0)]) [] []),
    (.eff [] none (.store 6) [(.t 5), (.t 8)] [])]) (.seq (.sts [(.chk [] (.c1 (.fld 1) (.t 5))),
    (.chk [] (.c1 .ld1 (.o1 (.fld 1) (.t 5)))),
    (.chk [] (.c1 (.fld 4) (.t 5))),
    (.chk [] (.c1 .ld1 (.o1 (.fld 4) (.t 5)))),
    (.chk [] (.cb 3 [(0, (1, (.o1 .ld1 (.o1 (.fld 1) (.t 5))))), (2, (1, (.o1 .ld1 (.o1 (.fld 4) (.t 5)))))])),
    (.set 13 (.o2 (.put 2 1) (.o2 (.put 0 1) (.c (.agg #[(str []), (.slice none 0 0), (.int .i64 0)])) (.o1 .ld1 (.o1 (.fld 1) (.t 5)))) (.o1 .ld1 (.o1 (.fld 4) (.t 5))))),
    (.eff [] (some 6) (.alloc 60 #[(str []), (.slice none 0 0), (.int .i64 0)]) [] []),
    (.eff [] none (.store 3) [(.t 6), (.t 13)] [])]) (.seq (.seq (.sts [(.eff [] (some 15) (.call 27) [(.t 0)] []),
    (.chk [] (.c1 (.part 0) (.t 15))),
    (.chk [] (.c2 (.bin .neq) (.o1 (.part 0) (.t 15)) (.c (.int .i64 5)))),
    (.set 17 (.o2 (.bin .neq) (.o1 (.part 0) (.t 15)) (.c (.int .i64 5))))]) (.cond 17 (.seq (.sts [(.chk [] (.c1 (.ldn 3) (.t 6))),
    (.set 18 (.o1 (.ldn 3) (.t 6))),
    (.eff [] none (.store 3) [(.t 4), (.t 18)] [])]) .ret) .skip)) (.seq (.sts [(.chk [] (.c1 .nilck (.t 0))),
    (.chk [] (.c1 (.fld 1) (.t 0))),
    (.chk [] (.c1 .ld1 (.o1 (.fld 1) (.t 0)))),
    (.chk [] (.c2 (.bin .add) (.o1 .ld1 (.o1 (.fld 1) (.t 0))) (.c (.int .i64 1)))),
    (.chk [] (.c1 .nilck (.t 0))),
    (.chk [] (.c1 (.fld 1) (.t 0))),
    (.set 23 (.o2 (.bin .add) (.o1 .ld1 (.o1 (.fld 1) (.t 0))) (.c (.int .i64 1)))),
    (.eff [] none (.store 1) [(.o1 (.fld 1) (.t 0)), (.t 23)] [])]) (.block 0 (.loop psAtom_L1)))))))
def psAtom_E : Res := [((some (.c1 (.ldn 3) (.t 4))), (.o1 (.ldn 3) (.t 4)))]
theorem psAtom_C : Tryd.f34.body.bind (comp Tryd.prog psAtom_M Tryd.f34.ntmps) = some psAtom_S := by kernel_rfl
theorem psAtom_R : resE Tryd.prog psAtom_M Tryd.f34.results.toList = some psAtom_E := by kernel_rfl
theorem psAtom_H (G : Ctr) (hG : GOk Tryd.prog G) (a0 : Value) (a1 : Value) {h : H} {K : Value → H → Prop} {KP : List PanicEntry → H → Prop} (Hw : wpS G psAtom_S (retQ psAtom_E (callK K KP)) (envOf 0 [a0, a1] env0) h) : HCX Tryd.prog 34 [a0, a1] h K KP :=
  .inl ⟨by kernel_rfl, hc_of mixed hG Tryd.func34 psAtom_C psAtom_R (of_decide_eq_true (by kernel_rfl)) Hw⟩
def psBegins_M : Nat → Bool := fun i => Nat.testBit 5 i
def psBegins_S : S :=
  (.seq (.sts [(.set 2 (.c (.bool false)))]) (.seq (.sts [(.chk [] (.c2 (.bin .eql) (.t 0) (.c (.int .i64 10)))),
    (.eff [((.o2 (.bin .eql) (.t 0) (.c (.int .i64 10))), false)] (some 7) (.call 42) [(.t 0), (.c (.bool true))] []),
    (.chk [] (.c3 .pick (.o2 (.bin .eql) (.t 0) (.c (.int .i64 10))) (.c (.bool true)) (.t 7))),
    (.set 2 (.o3 .pick (.o2 (.bin .eql) (.t 0) (.c (.int .i64 10))) (.c (.bool true)) (.t 7)))]) .ret))
def psBegins_E : Res := [(none, (.t 2))]
theorem psBegins_C : Tryd.f40.body.bind (comp Tryd.prog psBegins_M Tryd.f40.ntmps) = some psBegins_S := by kernel_rfl
theorem psBegins_R : resE Tryd.prog psBegins_M Tryd.f40.results.toList = some psBegins_E := by kernel_rfl
theorem psBegins_H (G : Ctr) (hG : GOk Tryd.prog G) (a0 : Value) {h : H} {K : Value → H → Prop} {KP : List PanicEntry → H → Prop} (Hw : wpS G psBegins_S (retQ psBegins_E (callK K KP)) (envOf 0 [a0] env0) h) : HCX Tryd.prog 40 [a0] h K KP :=
  .inl ⟨by kernel_rfl, hc_of mixed hG Tryd.func40 psBegins_C psBegins_R (of_decide_eq_true (by kernel_rfl)) Hw⟩
def psOpBeh_M : Nat → Bool := fun i => Nat.testBit 5 i
def psOpBeh_S : S :=
  (.seq (.sts [(.set 2 (.c (.bool false)))]) (.seq (.sts [(.chk [] (.c1 .nilck (.t 0))),
    (.chk [] (.c1 (.fld 1) (.t 0))),
    (.chk [] (.c1 .ld1 (.o1 (.fld 1) (.t 0)))),
    (.chk [] (.c2 (.bin .add) (.o1 .ld1 (.o1 (.fld 1) (.t 0))) (.c (.int .i64 1)))),
    (.chk [] (.c1 .nilck (.t 0))),
    (.chk [] (.c1 (.fld 0) (.t 0))),
    (.chk [] (.c1 .ld1 (.o1 (.fld 0) (.t 0)))),
    (.chk [] (.c1 .len (.o1 .ld1 (.o1 (.fld 0) (.t 0))))),
    (.chk [] (.c2 (.bin .lss) (.o2 (.bin .add) (.o1 .ld1 (.o1 (.fld 1) (.t 0))) (.c (.int .i64 1))) (.o1 .len (.o1 .ld1 (.o1 (.fld 0) (.t 0)))))),
    (.chk [((.o2 (.bin .lss) (.o2 (.bin .add) (.o1 .ld1 (.o1 (.fld 1) (.t 0))) (.c (.int .i64 1))) (.o1 .len (.o1 .ld1 (.o1 (.fld 0) (.t 0))))), true)] (.c1 .nilck (.t 0))),
    (.chk [((.o2 (.bin .lss) (.o2 (.bin .add) (.o1 .ld1 (.o1 (.fld 1) (.t 0))) (.c (.int .i64 1))) (.o1 .len (.o1 .ld1 (.o1 (.fld 0) (.t 0))))), true)] (.c1 (.fld 0) (.t 0))),
    (.chk [((.o2 (.bin .lss) (.o2 (.bin .add) (.o1 .ld1 (.o1 (.fld 1) (.t 0))) (.c (.int .i64 1))) (.o1 .len (.o1 .ld1 (.o1 (.fld 0) (.t 0))))), true)] (.c1 .ld1 (.o1 (.fld 0) (.t 0)))),
    (.chk [((.o2 (.bin .lss) (.o2 (.bin .add) (.o1 .ld1 (.o1 (.fld 1) (.t 0))) (.c (.int .i64 1))) (.o1 .len (.o1 .ld1 (.o1 (.fld 0) (.t 0))))), true)] (.c1 .nilck (.t 0))),
    (.chk [((.o2 (.bin .lss) (.o2 (.bin .add) (.o1 .ld1 (.o1 (.fld 1) (.t 0))) (.c (.int .i64 1))) (.o1 .len (.o1 .ld1 (.o1 (.fld 0) (.t 0))))), true)] (.c1 (.fld 1) (.t 0))),
    (.chk [((.o2 (.bin .lss) (.o2 (.bin .add) (.o1 .ld1 (.o1 (.fld 1) (.t 0))) (.c (.int .i64 1))) (.o1 .len (.o1 .ld1 (.o1 (.fld 0) (.t 0))))), true)] (.c1 .ld1 (.o1 (.fld 1) (.t 0)))),
    (.chk [((.o2 (.bin .lss) (.o2 (.bin .add) (.o1 .ld1 (.o1 (.fld 1) (.t 0))) (.c (.int .i64 1))) (.o1 .len (.o1 .ld1 (.o1 (.fld 0) (.t 0))))), true)] (.c2 (.bin .add) (.o1 .ld1 (.o1 (.fld 1) (.t 0))) (.c (.int .i64 1)))),
    (.chk [((.o2 (.bin .lss) (.o2 (.bin .add) (.o1 .ld1 (.o1 (.fld 1) (.t 0))) (.c (.int .i64 1))) (.o1 .len (.o1 .ld1 (.o1 (.fld 0) (.t 0))))), true)] (.c2 (.idxA 6) (.o1 .ld1 (.o1 (.fld 0) (.t 0))) (.o2 (.bin .add) (.o1 .ld1 (.o1 (.fld 1) (.t 0))) (.c (.int .i64 1))))),
    (.chk [((.o2 (.bin .lss) (.o2 (.bin .add) (.o1 .ld1 (.o1 (.fld 1) (.t 0))) (.c (.int .i64 1))) (.o1 .len (.o1 .ld1 (.o1 (.fld 0) (.t 0))))), true)] (.c1 (.fld 0) (.o2 (.idxA 6) (.o1 .ld1 (.o1 (.fld 0) (.t 0))) (.o2 (.bin .add) (.o1 .ld1 (.o1 (.fld 1) (.t 0))) (.c (.int .i64 1)))))),
    (.chk [((.o2 (.bin .lss) (.o2 (.bin .add) (.o1 .ld1 (.o1 (.fld 1) (.t 0))) (.c (.int .i64 1))) (.o1 .len (.o1 .ld1 (.o1 (.fld 0) (.t 0))))), true)] (.c1 .ld1 (.o1 (.fld 0) (.o2 (.idxA 6) (.o1 .ld1 (.o1 (.fld 0) (.t 0))) (.o2 (.bin .add) (.o1 .ld1 (.o1 (.fld 1) (.t 0))) (.c (.int .i64 1))))))),
    (.chk [((.o2 (.bin .lss) (.o2 (.bin .add) (.o1 .ld1 (.o1 (.fld 1) (.t 0))) (.c (.int .i64 1))) (.o1 .len (.o1 .ld1 (.o1 (.fld 0) (.t 0))))), true)] (.c2 (.bin .eql) (.o1 .ld1 (.o1 (.fld 0) (.o2 (.idxA 6) (.o1 .ld1 (.o1 (.fld 0) (.t 0))) (.o2 (.bin .add) (.o1 .ld1 (.o1 (.fld 1) (.t 0))) (.c (.int .i64 1)))))) (.c (.int .i64 11)))),
    (.chk [] (.c3 .pick (.o2 (.bin .lss) (.o2 (.bin .add) (.o1 .ld1 (.o1 (.fld 1) (.t 0))) (.c (.int .i64 1))) (.o1 .len (.o1 .ld1 (.o1 (.fld 0) (.t 0))))) (.o2 (.bin .eql) (.o1 .ld1 (.o1 (.fld 0) (.o2 (.idxA 6) (.o1 .ld1 (.o1 (.fld 0) (.t 0))) (.o2 (.bin .add) (.o1 .ld1 (.o1 (.fld 1) (.t 0))) (.c (.int .i64 1)))))) (.c (.int .i64 11))) (.c (.bool false)))),
    (.set 2 (.o3 .pick (.o2 (.bin .lss) (.o2 (.bin .add) (.o1 .ld1 (.o1 (.fld 1) (.t 0))) (.c (.int .i64 1))) (.o1 .len (.o1 .ld1 (.o1 (.fld 0) (.t 0))))) (.o2 (.bin .eql) (.o1 .ld1 (.o1 (.fld 0) (.o2 (.idxA 6) (.o1 .ld1 (.o1 (.fld 0) (.t 0))) (.o2 (.bin .add) (.o1 .ld1 (.o1 (.fld 1) (.t 0))) (.c (.int .i64 1)))))) (.c (.int .i64 11))) (.c (.bool false))))]) .ret))
def psOpBeh_E : Res := [(none, (.t 2))]
theorem psOpBeh_C : Tryd.f46.body.bind (comp Tryd.prog psOpBeh_M Tryd.f46.ntmps) = some psOpBeh_S := by kernel_rfl
theorem psOpBeh_R : resE Tryd.prog psOpBeh_M Tryd.f46.results.toList = some psOpBeh_E := by kernel_rfl
theorem psOpBeh_H (G : Ctr) (hG : GOk Tryd.prog G) (a0 : Value) {h : H} {K : Value → H → Prop} {KP : List PanicEntry → H → Prop} (Hw : wpS G psOpBeh_S (retQ psOpBeh_E (callK K KP)) (envOf 0 [a0] env0) h) : HCX Tryd.prog 46 [a0] h K KP :=
  .inl ⟨by kernel_rfl, hc_of mixed hG Tryd.func46 psOpBeh_C psOpBeh_R (of_decide_eq_true (by kernel_rfl)) Hw⟩
def psLit_M : Nat → Bool := fun i => Nat.testBit 536871453 i
def psLit_S : S :=
  (.seq (.sts [(.eff [] (some 2) (.alloc 74 #[(.int .i64 0), (str []), (.slice none 0 0), (.int .i64 0), (.int .i64 0), (.int .i64 0), (.int .i64 0), (str []), (.int .i64 0), (.int .i64 0), (.int .i64 0), (str []), (.int .i64 0), (.int .i64 0)]) [] [])]) (.seq (.sts [(.eff [] (some 6) (.call 27) [(.t 0)] []),
    (.eff [] (some 3) (.alloc 80 #[(.int .i64 0), (str []), (.int .i64 0), (.int .i64 0), (.int .i64 0), (.int .i64 0)]) [] []),
    (.eff [] none (.store 6) [(.t 3), (.t 6)] [])]) (.seq (.seq (.sts [(.chk [] (.c1 (.fld 0) (.t 3))),
    (.chk [] (.c1 .ld1 (.o1 (.fld 0) (.t 3)))),
    (.chk [] (.c2 (.bin .eql) (.o1 .ld1 (.o1 (.fld 0) (.t 3))) (.c (.int .i64 10)))),
    (.set 9 (.o2 (.bin .eql) (.o1 .ld1 (.o1 (.fld 0) (.t 3))) (.c (.int .i64 10))))]) (.cond 9 (.seq (.sts [(.chk [] (.c1 .nilck (.t 0))),
    (.chk [] (.c1 (.fld 1) (.t 0))),
    (.chk [] (.c1 .ld1 (.o1 (.fld 1) (.t 0)))),
    (.chk [] (.c2 (.bin .add) (.o1 .ld1 (.o1 (.fld 1) (.t 0))) (.c (.int .i64 1)))),
    (.chk [] (.c1 .nilck (.t 0))),
    (.chk [] (.c1 (.fld 1) (.t 0))),
    (.set 14 (.o2 (.bin .add) (.o1 .ld1 (.o1 (.fld 1) (.t 0))) (.c (.int .i64 1)))),
    (.eff [] none (.store 1) [(.o1 (.fld 1) (.t 0)), (.t 14)] [])]) (.seq (.sts [(.chk [] (.c1 (.fld 4) (.t 3))),
    (.chk [] (.c1 .ld1 (.o1 (.fld 4) (.t 3)))),
    (.set 20 (.o1 .ld1 (.o1 (.fld 4) (.t 3)))),
    (.eff [] (some 18) (.call 34) [(.t 0), (.c (.bool true))] [([], ((.o1 (.fld 4) (.t 3)), none))]),
    (.chk [] (.cb 14 [(0, (1, (.c (.int .i64 2)))), (1, (3, (.t 18))), (13, (1, (.t 20)))])),
    (.eff [] none (.store 14) [(.t 2), (.o2 (.put 13 1) (.o2 (.put 1 3) (.o2 (.put 0 1) (.c (.agg #[(.int .i64 0), (str []), (.slice none 0 0), (.int .i64 0), (.int .i64 0), (.int .i64 0), (.int .i64 0), (str []), (.int .i64 0), (.int .i64 0), (.int .i64 0), (str []), (.int .i64 0), (.int .i64 0)])) (.c (.int .i64 2))) (.t 18)) (.t 20))] [])]) .ret)) .skip)) (.seq (.seq (.sts [(.chk [] (.c1 (.fld 0) (.t 3))),
    (.chk [] (.c1 .ld1 (.o1 (.fld 0) (.t 3)))),
    (.chk [] (.c2 (.bin .eql) (.o1 .ld1 (.o1 (.fld 0) (.t 3))) (.c (.int .i64 1)))),
    (.set 25 (.o2 (.bin .eql) (.o1 .ld1 (.o1 (.fld 0) (.t 3))) (.c (.int .i64 1)))),
    (.eff [((.t 25), true)] (some 27) (.call 46) [(.t 0)] []),
    (.chk [((.t 25), true)] (.c1 .not (.t 27))),
    (.chk [] (.c3 .pick (.t 25) (.o1 .not (.t 27)) (.c (.bool false)))),
    (.set 29 (.o3 .pick (.t 25) (.o1 .not (.t 27)) (.c (.bool false))))]) (.cond 29 (.seq (.sts [(.chk [] (.c1 (.fld 4) (.t 3))),
    (.chk [] (.c1 .ld1 (.o1 (.fld 4) (.t 3)))),
    (.set 33 (.o1 .ld1 (.o1 (.fld 4) (.t 3)))),
    (.eff [] (some 31) (.call 34) [(.t 0), (.c (.bool true))] [([], ((.o1 (.fld 4) (.t 3)), none))]),
    (.chk [] (.cb 14 [(0, (1, (.c (.int .i64 1)))), (1, (3, (.t 31))), (13, (1, (.t 33)))])),
    (.eff [] none (.store 14) [(.t 2), (.o2 (.put 13 1) (.o2 (.put 1 3) (.o2 (.put 0 1) (.c (.agg #[(.int .i64 0), (str []), (.slice none 0 0), (.int .i64 0), (.int .i64 0), (.int .i64 0), (.int .i64 0), (str []), (.int .i64 0), (.int .i64 0), (.int .i64 0), (str []), (.int .i64 0), (.int .i64 0)])) (.c (.int .i64 1))) (.t 31)) (.t 33))] [])]) .ret) .skip)) (.seq (.join (.seq (.sts [(.chk [] (.c1 (.fld 4) (.t 3)))]) (.seq (.sts [(.chk [] (.c1 .ld1 (.o1 (.fld 4) (.t 3))))]) (.both (.sts [(.set 38 (.o1 .ld1 (.o1 (.fld 4) (.t 3)))),
    (.eff [] (some 36) (.call 43) [(.t 0), (.c (.bool true))] [([], ((.o1 (.fld 4) (.t 3)), none))]),
    (.chk [] (.cb 14 [(0, (1, (.c (.int .i64 3)))), (5, (4, (.t 36))), (13, (1, (.t 38)))])),
    (.eff [] (some 4) (.alloc 74 #[(.int .i64 0), (str []), (.slice none 0 0), (.int .i64 0), (.int .i64 0), (.int .i64 0), (.int .i64 0), (str []), (.int .i64 0), (.int .i64 0), (.int .i64 0), (str []), (.int .i64 0), (.int .i64 0)]) [] [([], ((.o1 (.fld 4) (.t 3)), none))]),
    (.eff [] none (.store 14) [(.t 4), (.o2 (.put 13 1) (.o2 (.put 5 4) (.o2 (.put 0 1) (.c (.agg #[(.int .i64 0), (str []), (.slice none 0 0), (.int .i64 0), (.int .i64 0), (.int .i64 0), (.int .i64 0), (str []), (.int .i64 0), (.int .i64 0), (.int .i64 0), (str []), (.int .i64 0), (.int .i64 0)])) (.c (.int .i64 3))) (.t 36)) (.t 38))] [])]) (.sts [(.set 38 (.o1 .ld1 (.o1 (.fld 4) (.t 3)))),
    (.eff [] (some 4) (.alloc 74 #[(.int .i64 0), (str []), (.slice none 0 0), (.int .i64 0), (.int .i64 0), (.int .i64 0), (.int .i64 0), (str []), (.int .i64 0), (.int .i64 0), (.int .i64 0), (str []), (.int .i64 0), (.int .i64 0)]) [] [([], ((.o1 (.fld 4) (.t 3)), none))]),
    (.eff [] (some 36) (.call 43) [(.t 0), (.c (.bool true))] [([], ((.o1 (.fld 4) (.t 3)), none))]),
    (.chk [] (.cb 14 [(0, (1, (.c (.int .i64 3)))), (5, (4, (.t 36))), (13, (1, (.t 38)))])),
    (.eff [] none (.store 14) [(.t 4), (.o2 (.put 13 1) (.o2 (.put 5 4) (.o2 (.put 0 1) (.c (.agg #[(.int .i64 0), (str []), (.slice none 0 0), (.int .i64 0), (.int .i64 0), (.int .i64 0), (.int .i64 0), (str []), (.int .i64 0), (.int .i64 0), (.int .i64 0), (str []), (.int .i64 0), (.int .i64 0)])) (.c (.int .i64 3))) (.t 36)) (.t 38))] [])]))))) (.seq (.sts [(.eff [] (some 41) (.call 32) [(.t 0), (.c (.int .i64 11))] []),
    (.chk [] (.c1 (.part 3) (.t 41))),
    (.chk [] (.c1 (.fld 4) (.t 4))),
    (.eff [] none (.store 1) [(.o1 (.fld 4) (.t 4)), (.o1 (.part 3) (.t 41))] [])]) (.seq (.sts [(.eff [] (some 45) (.call 43) [(.t 0), (.c (.bool true))] []),
    (.chk [] (.c1 (.fld 9) (.t 4))),
    (.eff [] none (.store 4) [(.o1 (.fld 9) (.t 4)), (.t 45)] [])]) (.seq (.sts [(.chk [] (.c1 (.ldn 14) (.t 4))),
    (.set 47 (.o1 (.ldn 14) (.t 4))),
    (.eff [] none (.store 14) [(.t 2), (.t 47)] [])]) .ret))))))))
def psLit_E : Res := [((some (.c1 (.ldn 14) (.t 2))), (.o1 (.ldn 14) (.t 2)))]
theorem psLit_C : Tryd.f41.body.bind (comp Tryd.prog psLit_M Tryd.f41.ntmps) = some psLit_S := by kernel_rfl
theorem psLit_R : resE Tryd.prog psLit_M Tryd.f41.results.toList = some psLit_E := by kernel_rfl
theorem psLit_H (G : Ctr) (hG : GOk Tryd.prog G) (a0 : Value) {h : H} {K : Value → H → Prop} {KP : List PanicEntry → H → Prop} (Hw : wpS G psLit_S (retQ psLit_E (callK K KP)) (envOf 0 [a0] env0) h) : HCX Tryd.prog 41 [a0] h K KP :=
  .inl ⟨by kernel_rfl, hc_of mixed hG Tryd.func41 psLit_C psLit_R (of_decide_eq_true (by kernel_rfl)) Hw⟩
def psBody_M : Nat → Bool := fun i => Nat.testBit 17217622029 i
def psBody_L1 : S :=
  (.block 1 (.seq (.seq (.sts [(.chk [] (.c1 .len (.t 3))),
    (.chk [] (.c2 (.bin .geq) (.o1 .len (.t 3)) (.c (.int .i64 16)))),
    (.eff [((.o2 (.bin .geq) (.o1 .len (.t 3)) (.c (.int .i64 16))), true)] (some 9) (.call 27) [(.t 0)] []),
    (.chk [((.o2 (.bin .geq) (.o1 .len (.t 3)) (.c (.int .i64 16))), true)] (.c1 (.part 0) (.t 9))),
    (.eff [((.o2 (.bin .geq) (.o1 .len (.t 3)) (.c (.int .i64 16))), true)] (some 11) (.call 40) [(.o1 (.part 0) (.t 9))] []),
    (.chk [] (.c3 .pick (.o2 (.bin .geq) (.o1 .len (.t 3)) (.c (.int .i64 16))) (.t 11) (.c (.bool false)))),
    (.set 12 (.o3 .pick (.o2 (.bin .geq) (.o1 .len (.t 3)) (.c (.int .i64 16))) (.t 11) (.c (.bool false))))]) (.cond 12 (.sts [(.eff [] (some 14) (.call 28) [(.t 0), (.c (.int .i64 23))] [])]) .skip)) (.seq (.sts [(.eff [] (some 17) (.call 41) [(.t 0)] []),
    (.eff [] (some 18) (.bsl 74 14 1 [(.int .i64 0), (str []), (.slice none 0 0), (.int .i64 0), (.int .i64 0), (.int .i64 0), (.int .i64 0), (str []), (.int .i64 0), (.int .i64 0), (.int .i64 0), (str []), (.int .i64 0), (.int .i64 0)] [0]) [(.t 17)] []),
    (.eff [] (some 19) (.app 74 14 152 [(.int .i64 0), (str []), (.slice none 0 0), (.int .i64 0), (.int .i64 0), (.int .i64 0), (.int .i64 0), (str []), (.int .i64 0), (.int .i64 0), (.int .i64 0), (str []), (.int .i64 0), (.int .i64 0)]) [(.t 3), (.t 18)] []),
    (.set 3 (.t 19))]) (.seq (.sts [(.eff [] (some 21) (.call 27) [(.t 0)] []),
    (.chk [] (.c1 (.part 0) (.t 21))),
    (.set 22 (.o1 (.part 0) (.t 21)))]) (.block 2 (.seq (.sts [(.chk [] (.c2 (.bin .eql) (.t 22) (.c (.int .i64 7)))),
    (.set 25 (.o2 (.bin .eql) (.t 22) (.c (.int .i64 7))))]) (.cond 25 (.sts [(.chk [] (.c1 .nilck (.t 0))),
    (.chk [] (.c1 (.fld 1) (.t 0))),
    (.chk [] (.c1 .ld1 (.o1 (.fld 1) (.t 0)))),
    (.chk [] (.c2 (.bin .add) (.o1 .ld1 (.o1 (.fld 1) (.t 0))) (.c (.int .i64 1)))),
    (.chk [] (.c1 .nilck (.t 0))),
    (.chk [] (.c1 (.fld 1) (.t 0))),
    (.set 31 (.o2 (.bin .add) (.o1 .ld1 (.o1 (.fld 1) (.t 0))) (.c (.int .i64 1)))),
    (.eff [] none (.store 1) [(.o1 (.fld 1) (.t 0)), (.t 31)] [])]) (.seq (.sts [(.chk [] (.c2 (.bin .eql) (.t 22) (.c (.int .i64 8)))),
    (.set 34 (.o2 (.bin .eql) (.t 22) (.c (.int .i64 8))))]) (.cond 34 (.seq (.sts [(.chk [] (.c1 .nilck (.t 0))),
    (.chk [] (.c1 (.fld 1) (.t 0))),
    (.chk [] (.c1 .ld1 (.o1 (.fld 1) (.t 0)))),
    (.chk [] (.c2 (.bin .add) (.o1 .ld1 (.o1 (.fld 1) (.t 0))) (.c (.int .i64 1)))),
    (.chk [] (.c1 .nilck (.t 0))),
    (.chk [] (.c1 (.fld 1) (.t 0))),
    (.set 40 (.o2 (.bin .add) (.o1 .ld1 (.o1 (.fld 1) (.t 0))) (.c (.int .i64 1)))),
    (.eff [] none (.store 1) [(.o1 (.fld 1) (.t 0)), (.t 40)] [])]) (.seq (.sts [(.set 2 (.t 3))]) .ret)) (.sts [(.eff [] (some 24) (.call 39) [(.t 0)] [])]))))))))))
def psBody_S : S :=
  (.seq (.sts [(.set 2 (.c (.slice none 0 0)))]) (.seq (.sts [(.set 3 (.c (.slice none 0 0)))]) (.block 0 (.loop psBody_L1))))
def psBody_E : Res := [(none, (.t 2))]
theorem psBody_C : Tryd.f31.body.bind (comp Tryd.prog psBody_M Tryd.f31.ntmps) = some psBody_S := by kernel_rfl
theorem psBody_R : resE Tryd.prog psBody_M Tryd.f31.results.toList = some psBody_E := by kernel_rfl
theorem psBody_H (G : Ctr) (hG : GOk Tryd.prog G) (a0 : Value) {h : H} {K : Value → H → Prop} {KP : List PanicEntry → H → Prop} (Hw : wpS G psBody_S (retQ psBody_E (callK K KP)) (envOf 0 [a0] env0) h) : HCX Tryd.prog 31 [a0] h K KP :=
  .inl ⟨by kernel_rfl, hc_of mixed hG Tryd.func31 psBody_C psBody_R (of_decide_eq_true (by kernel_rfl)) Hw⟩
def psClause_M : Nat → Bool := fun i => Nat.testBit 2101773 i
def psClause_S : S :=
  (.seq (.sts [(.eff [] (some 2) (.alloc 62 #[(str []), (.slice none 0 0), (.int .i64 0), (.slice none 0 0)]) [] [])]) (.seq (.sts [(.eff [] (some 5) (.call 34) [(.t 0), (.c (.bool true))] []),
    (.chk [] (.cb 4 [(0, (3, (.t 5)))])),
    (.eff [] (some 3) (.alloc 62 #[(str []), (.slice none 0 0), (.int .i64 0), (.slice none 0 0)]) [] []),
    (.eff [] none (.store 4) [(.t 3), (.o2 (.put 0 3) (.c (.agg #[(str []), (.slice none 0 0), (.int .i64 0), (.slice none 0 0)])) (.t 5))] [])]) (.seq (.seq (.sts [(.eff [] (some 8) (.call 27) [(.t 0)] []),
    (.chk [] (.c1 (.part 0) (.t 8))),
    (.set 9 (.o1 (.part 0) (.t 8)))]) (.block 0 (.seq (.sts [(.chk [] (.c2 (.bin .eql) (.t 9) (.c (.int .i64 8)))),
    (.set 12 (.o2 (.bin .eql) (.t 9) (.c (.int .i64 8))))]) (.cond 12 (.sts [(.chk [] (.c1 .nilck (.t 0))),
    (.chk [] (.c1 (.fld 1) (.t 0))),
    (.chk [] (.c1 .ld1 (.o1 (.fld 1) (.t 0)))),
    (.chk [] (.c2 (.bin .add) (.o1 .ld1 (.o1 (.fld 1) (.t 0))) (.c (.int .i64 1)))),
    (.chk [] (.c1 .nilck (.t 0))),
    (.chk [] (.c1 (.fld 1) (.t 0))),
    (.set 18 (.o2 (.bin .add) (.o1 .ld1 (.o1 (.fld 1) (.t 0))) (.c (.int .i64 1)))),
    (.eff [] none (.store 1) [(.o1 (.fld 1) (.t 0)), (.t 18)] [])]) (.seq (.sts [(.chk [] (.c2 (.bin .eql) (.t 9) (.c (.int .i64 9)))),
    (.set 21 (.o2 (.bin .eql) (.t 9) (.c (.int .i64 9))))]) (.cond 21 (.seq (.sts [(.chk [] (.c1 .nilck (.t 0))),
    (.chk [] (.c1 (.fld 1) (.t 0))),
    (.chk [] (.c1 .ld1 (.o1 (.fld 1) (.t 0)))),
    (.chk [] (.c2 (.bin .add) (.o1 .ld1 (.o1 (.fld 1) (.t 0))) (.c (.int .i64 1)))),
    (.chk [] (.c1 .nilck (.t 0))),
    (.chk [] (.c1 (.fld 1) (.t 0))),
    (.set 27 (.o2 (.bin .add) (.o1 .ld1 (.o1 (.fld 1) (.t 0))) (.c (.int .i64 1)))),
    (.eff [] none (.store 1) [(.o1 (.fld 1) (.t 0)), (.t 27)] [])]) (.sts [(.eff [] (some 31) (.call 31) [(.t 0)] []),
    (.chk [] (.c1 (.fld 3) (.t 3))),
    (.eff [] none (.store 1) [(.o1 (.fld 3) (.t 3)), (.t 31)] [])])) (.sts [(.eff [] (some 11) (.call 39) [(.t 0)] [])]))))))) (.seq (.sts [(.chk [] (.c1 (.ldn 4) (.t 3))),
    (.set 33 (.o1 (.ldn 4) (.t 3))),
    (.eff [] none (.store 4) [(.t 2), (.t 33)] [])]) .ret))))
def psClause_E : Res := [((some (.c1 (.ldn 4) (.t 2))), (.o1 (.ldn 4) (.t 2)))]
theorem psClause_C : Tryd.f29.body.bind (comp Tryd.prog psClause_M Tryd.f29.ntmps) = some psClause_S := by kernel_rfl
theorem psClause_R : resE Tryd.prog psClause_M Tryd.f29.results.toList = some psClause_E := by kernel_rfl
theorem psClause_H (G : Ctr) (hG : GOk Tryd.prog G) (a0 : Value) {h : H} {K : Value → H → Prop} {KP : List PanicEntry → H → Prop} (Hw : wpS G psClause_S (retQ psClause_E (callK K KP)) (envOf 0 [a0] env0) h) : HCX Tryd.prog 29 [a0] h K KP :=
  .inl ⟨by kernel_rfl, hc_of mixed hG Tryd.func29 psClause_C psClause_R (of_decide_eq_true (by kernel_rfl)) Hw⟩
def psGuarded_M : Nat → Bool := fun i => Nat.testBit 627 i
def psGuarded_S : S :=
  (.seq (.sts [(.eff [] (some 4) (.alloc 27 #[(.int .i64 0), (.int .i64 0), (.int .i64 0)]) [] [])]) (.seq (.seq (.sts [(.chk [] (.c1 .lens (.t 0))),
    (.chk [] (.c2 (.bin .gtr) (.o1 .lens (.t 0)) (.c (.int .i64 65536)))),
    (.set 9 (.o2 (.bin .gtr) (.o1 .lens (.t 0)) (.c (.int .i64 65536))))]) (.cond 9 (.seq (.sts [(.chk [] (.cb 3 [(0, (1, (.c (.int .i64 1))))])),
    (.eff [] none (.store 3) [(.t 4), (.o2 (.put 0 1) (.c (.agg #[(.int .i64 0), (.int .i64 0), (.int .i64 0)])) (.c (.int .i64 1)))] [])]) .ret) .skip)) (.seq (.sts [(.eff [] (some 11) (.mkf (.func 37) 0) [(.t 4)] []),
    (.eff [] none .dead [] [])]) (.seq (.sts [(.eff [] (some 14) (.call 38) [(.t 0)] []),
    (.chk [] (.c1 (.ext 0) (.t 14))),
    (.chk [] (.c1 (.ext 1) (.t 14))),
    (.eff [] (some 6) (.alloc 27 #[(.int .i64 0), (.int .i64 0), (.int .i64 0)]) [] []),
    (.set 5 (.o1 (.ext 0) (.t 14))),
    (.eff [] none (.store 3) [(.t 6), (.o1 (.ext 1) (.t 14))] [])]) (.seq (.sts [(.chk [] (.c1 (.ldn 3) (.t 6))),
    (.chk [] (.cb 5 [(0, (1, (.t 5))), (2, (3, (.o1 (.ldn 3) (.t 6))))])),
    (.set 20 (.o2 (.put 2 3) (.o2 (.put 0 1) (.c (.agg #[(.slice none 0 0), (.int .i64 0), (.int .i64 0), (.int .i64 0), (.int .i64 0)])) (.t 5)) (.o1 (.ldn 3) (.t 6)))),
    (.eff [] (some 21) (.box 96) [(.t 20)] []),
    (.eff [] (some 22) .callv [(.t 1), (.t 21)] [])]) (.seq (.sts [(.chk [] (.cb 3 [])),
    (.eff [] none (.store 3) [(.t 4), (.c (.agg #[(.int .i64 0), (.int .i64 0), (.int .i64 0)]))] [])]) .ret))))))
def psGuarded_E : Res := [((some (.c1 (.ldn 3) (.t 4))), (.o1 (.ldn 3) (.t 4)))]
theorem psGuarded_C : Tryd.f25.body.bind (comp Tryd.prog psGuarded_M Tryd.f25.ntmps) = some psGuarded_S := by kernel_rfl
theorem psGuarded_R : resE Tryd.prog psGuarded_M Tryd.f25.results.toList = some psGuarded_E := by kernel_rfl
theorem psGuarded_H (G : Ctr) (hG : GOk Tryd.prog G) (a0 : Value) (a1 : Value) {h : H} {K : Value → H → Prop} {KP : List PanicEntry → H → Prop} (Hw : wpS G psGuarded_S (retQ psGuarded_E (callK K KP)) (envOf 0 [a0, a1] env0) h) : HCX Tryd.prog 25 [a0, a1] h K KP :=
  .inl ⟨by kernel_rfl, hc_of mixed hG Tryd.func25 psGuarded_C psGuarded_R (of_decide_eq_true (by kernel_rfl)) Hw⟩
def psGuardedY_M : Nat → Bool := fun i => Nat.testBit 8271 i
def psGuardedY_S : S :=
  (.seq (.sts [(.eff [] (some 4) .dead [] []),
    (.set 1 (.t 4))]) (.seq (.seq (.sts [(.chk [] (.c2 (.eqn .iface false) (.t 1) (.c .nilIface))),
    (.set 6 (.o2 (.eqn .iface false) (.t 1) (.c .nilIface)))]) (.cond 6 .ret .skip)) (.seq (.sts [(.eff [] (some 9) .dead [] []),
    (.chk [] (.c1 (.ext 0) (.t 9))),
    (.chk [] (.c1 (.ext 1) (.t 9))),
    (.eff [] (some 2) (.alloc 90 #[(.int .i64 0), (.int .i64 0), (.int .i64 0)]) [] []),
    (.eff [] none (.store 3) [(.t 2), (.o1 (.ext 0) (.t 9))] []),
    (.set 3 (.o1 (.ext 1) (.t 9)))]) (.seq (.seq (.sts [(.chk [] (.c1 .not (.t 3))),
    (.set 13 (.o1 .not (.t 3)))]) (.cond 13 (.sts [(.eff [] none .pnc [(.t 1)] [])]) .skip)) (.sts [(.chk [] (.c1 (.fld 0) (.t 2))),
    (.chk [] (.c1 (.ldn 3) (.o1 (.fld 0) (.t 2)))),
    (.set 16 (.o1 (.ldn 3) (.o1 (.fld 0) (.t 2)))),
    (.eff [] none (.store 3) [(.t 0), (.t 16)] [])])))))
def psGuardedY_E : Res := []
theorem psGuardedY_C : Tryd.f37.body.bind (comp Tryd.prog psGuardedY_M Tryd.f37.ntmps) = some psGuardedY_S := by kernel_rfl
theorem psGuardedY_R : resE Tryd.prog psGuardedY_M Tryd.f37.results.toList = some psGuardedY_E := by kernel_rfl
theorem psGuardedY_H (G : Ctr) (hG : GOk Tryd.prog G) (a0 : Value) {h : H} {K : Value → H → Prop} {KP : List PanicEntry → H → Prop} (Hw : wpS G psGuardedY_S (retQ psGuardedY_E (callK K KP)) (envOf 0 [a0] env0) h) : HCX Tryd.prog 37 [a0] h K KP :=
  .inl ⟨by kernel_rfl, hc_of mixed hG Tryd.func37 psGuardedY_C psGuardedY_R (of_decide_eq_true (by kernel_rfl)) Hw⟩
def psProgramY_M : Nat → Bool := fun i => Nat.testBit 65603 i
def psProgramY_L1 : S :=
  (.seq (.seq (.sts [(.eff [] (some 4) (.call 27) [(.t 0)] []),
    (.chk [] (.c1 (.part 0) (.t 4))),
    (.chk [] (.c2 (.bin .neq) (.o1 (.part 0) (.t 4)) (.c (.int .i64 0)))),
    (.set 6 (.o2 (.bin .neq) (.o1 (.part 0) (.t 4)) (.c (.int .i64 0))))]) (.cond 6 .skip (.exit 0))) (.block 1 (.seq (.seq (.sts [(.chk [] (.c1 (.fld 0) (.t 1))),
    (.chk [] (.c1 .ld1 (.o1 (.fld 0) (.t 1)))),
    (.chk [] (.c1 .len (.o1 .ld1 (.o1 (.fld 0) (.t 1))))),
    (.chk [] (.c2 (.bin .geq) (.o1 .len (.o1 .ld1 (.o1 (.fld 0) (.t 1)))) (.c (.int .i64 512)))),
    (.set 11 (.o2 (.bin .geq) (.o1 .len (.o1 .ld1 (.o1 (.fld 0) (.t 1)))) (.c (.int .i64 512)))),
    (.eff [((.t 11), true)] (some 13) (.call 27) [(.t 0)] []),
    (.chk [((.t 11), true)] (.c1 (.part 0) (.t 13))),
    (.chk [((.t 11), true)] (.c2 (.bin .eql) (.o1 (.part 0) (.t 13)) (.c (.int .i64 1)))),
    (.chk [] (.c3 .pick (.t 11) (.o2 (.bin .eql) (.o1 (.part 0) (.t 13)) (.c (.int .i64 1))) (.c (.bool false)))),
    (.set 16 (.o3 .pick (.t 11) (.o2 (.bin .eql) (.o1 (.part 0) (.t 13)) (.c (.int .i64 1))) (.c (.bool false))))]) (.cond 16 (.sts [(.eff [] (some 18) (.call 28) [(.t 0), (.c (.int .i64 24))] [])]) .skip)) (.sts [(.chk [] (.c1 (.fld 0) (.t 1))),
    (.chk [] (.c1 .ld1 (.o1 (.fld 0) (.t 1)))),
    (.set 20 (.o1 .ld1 (.o1 (.fld 0) (.t 1)))),
    (.eff [] (some 22) (.call 29) [(.t 0)] [([], ((.o1 (.fld 0) (.t 1)), none))]),
    (.eff [] (some 23) (.bsl 62 4 1 [(str []), (.slice none 0 0), (.int .i64 0), (.slice none 0 0)] [0]) [(.t 22)] [([], ((.o1 (.fld 0) (.t 1)), none))]),
    (.eff [] (some 24) (.app 62 4 72 [(str []), (.slice none 0 0), (.int .i64 0), (.slice none 0 0)]) [(.t 20), (.t 23)] []),
    (.chk [] (.c1 (.fld 0) (.t 1))),
    (.eff [] none (.store 1) [(.o1 (.fld 0) (.t 1)), (.t 24)] [])]))))
def psProgramY_S : S :=
  (.block 0 (.loop psProgramY_L1))
def psProgramY_E : Res := []
theorem psProgramY_C : Tryd.f26.body.bind (comp Tryd.prog psProgramY_M Tryd.f26.ntmps) = some psProgramY_S := by kernel_rfl
theorem psProgramY_R : resE Tryd.prog psProgramY_M Tryd.f26.results.toList = some psProgramY_E := by kernel_rfl
theorem psProgramY_H (G : Ctr) (hG : GOk Tryd.prog G) (a0 : Value) (a1 : Value) {h : H} {K : Value → H → Prop} {KP : List PanicEntry → H → Prop} (Hw : wpS G psProgramY_S (retQ psProgramY_E (callK K KP)) (envOf 0 [a0, a1] env0) h) : HCX Tryd.prog 26 [a0, a1] h K KP :=
  .inl ⟨by kernel_rfl, hc_of mixed hG Tryd.func26 psProgramY_C psProgramY_R (of_decide_eq_true (by kernel_rfl)) Hw⟩
def psProgram_M : Nat → Bool := fun i => Nat.testBit 2109 i
def psProgram_S : S :=
  (.seq (.sts [(.eff [] (some 2) (.alloc 24 #[(.slice none 0 0)]) [] []),
    (.eff [] (some 3) (.alloc 27 #[(.int .i64 0), (.int .i64 0), (.int .i64 0)]) [] [])]) (.seq (.sts [(.eff [] (some 4) (.alloc 24 #[(.slice none 0 0)]) [] [])]) (.seq (.sts [(.eff [] (some 7) (.mkf (.func 26) 0) [(.t 4)] []),
    (.eff [] (some 8) (.call 25) [(.t 0), (.t 7)] []),
    (.eff [] (some 5) (.alloc 27 #[(.int .i64 0), (.int .i64 0), (.int .i64 0)]) [] []),
    (.eff [] none (.store 3) [(.t 5), (.t 8)] [])]) (.seq (.seq (.sts [(.chk [] (.c1 (.fld 0) (.t 5))),
    (.chk [] (.c1 .ld1 (.o1 (.fld 0) (.t 5)))),
    (.chk [] (.c2 (.bin .neq) (.o1 .ld1 (.o1 (.fld 0) (.t 5))) (.c (.int .i64 0)))),
    (.set 11 (.o2 (.bin .neq) (.o1 .ld1 (.o1 (.fld 0) (.t 5))) (.c (.int .i64 0))))]) (.cond 11 (.seq (.sts [(.chk [] (.cb 1 [])),
    (.chk [] (.c1 (.ldn 3) (.t 5))),
    (.set 13 (.o1 (.ldn 3) (.t 5))),
    (.eff [] none (.store 1) [(.t 2), (.c (.agg #[(.slice none 0 0)]))] [([], ((.t 5), (some 3)))]),
    (.eff [] none (.store 3) [(.t 3), (.t 13)] [])]) .ret) .skip)) (.seq (.sts [(.chk [] (.c1 (.ldn 1) (.t 4))),
    (.chk [] (.c1 (.ldn 3) (.t 5))),
    (.set 15 (.o1 (.ldn 3) (.t 5))),
    (.set 14 (.o1 (.ldn 1) (.t 4))),
    (.eff [] none (.store 1) [(.t 2), (.t 14)] [([], ((.t 5), (some 3)))]),
    (.eff [] none (.store 3) [(.t 3), (.t 15)] [])]) .ret)))))
def psProgram_E : Res := [((some (.c1 (.ldn 1) (.t 2))), (.o1 (.ldn 1) (.t 2))), ((some (.c1 (.ldn 3) (.t 3))), (.o1 (.ldn 3) (.t 3)))]
theorem psProgram_C : Tryd.f11.body.bind (comp Tryd.prog psProgram_M Tryd.f11.ntmps) = some psProgram_S := by kernel_rfl
theorem psProgram_R : resE Tryd.prog psProgram_M Tryd.f11.results.toList = some psProgram_E := by kernel_rfl
theorem psProgram_H (G : Ctr) (hG : GOk Tryd.prog G) (a0 : Value) {h : H} {K : Value → H → Prop} {KP : List PanicEntry → H → Prop} (Hw : wpS G psProgram_S (retQ psProgram_E (callK K KP)) (envOf 0 [a0] env0) h) : HCX Tryd.prog 11 [a0] h K KP :=
  .inl ⟨by kernel_rfl, hc_of mixed hG Tryd.func11 psProgram_C psProgram_R (of_decide_eq_true (by kernel_rfl)) Hw⟩
def psFactsY_M : Nat → Bool := fun i => Nat.testBit 32835 i
def psFactsY_L1 : S :=
  (.seq (.seq (.sts [(.eff [] (some 4) (.call 27) [(.t 0)] []),
    (.chk [] (.c1 (.part 0) (.t 4))),
    (.chk [] (.c2 (.bin .neq) (.o1 (.part 0) (.t 4)) (.c (.int .i64 0)))),
    (.set 6 (.o2 (.bin .neq) (.o1 (.part 0) (.t 4)) (.c (.int .i64 0))))]) (.cond 6 .skip (.exit 0))) (.block 1 (.seq (.seq (.sts [(.chk [] (.c1 .ld1 (.t 1))),
    (.chk [] (.c1 .len (.o1 .ld1 (.t 1)))),
    (.chk [] (.c2 (.bin .geq) (.o1 .len (.o1 .ld1 (.t 1))) (.c (.int .i64 4096)))),
    (.set 10 (.o2 (.bin .geq) (.o1 .len (.o1 .ld1 (.t 1))) (.c (.int .i64 4096)))),
    (.eff [((.t 10), true)] (some 12) (.call 27) [(.t 0)] []),
    (.chk [((.t 10), true)] (.c1 (.part 0) (.t 12))),
    (.chk [((.t 10), true)] (.c2 (.bin .eql) (.o1 (.part 0) (.t 12)) (.c (.int .i64 1)))),
    (.chk [] (.c3 .pick (.t 10) (.o2 (.bin .eql) (.o1 (.part 0) (.t 12)) (.c (.int .i64 1))) (.c (.bool false)))),
    (.set 15 (.o3 .pick (.t 10) (.o2 (.bin .eql) (.o1 (.part 0) (.t 12)) (.c (.int .i64 1))) (.c (.bool false))))]) (.cond 15 (.sts [(.eff [] (some 17) (.call 28) [(.t 0), (.c (.int .i64 24))] [])]) .skip)) (.seq (.sts [(.chk [] (.c1 .ld1 (.t 1))),
    (.set 18 (.o1 .ld1 (.t 1))),
    (.eff [] (some 20) (.call 34) [(.t 0), (.c (.bool false))] [([], ((.t 1), none))]),
    (.eff [] (some 21) (.bsl 60 3 1 [(str []), (.slice none 0 0), (.int .i64 0)] [0]) [(.t 20)] [([], ((.t 1), none))]),
    (.eff [] (some 22) (.app 60 3 48 [(str []), (.slice none 0 0), (.int .i64 0)]) [(.t 18), (.t 21)] []),
    (.eff [] none (.store 1) [(.t 1), (.t 22)] [])]) (.sts [(.eff [] (some 24) (.call 32) [(.t 0), (.c (.int .i64 8))] [])])))))
def psFactsY_S : S :=
  (.block 0 (.loop psFactsY_L1))
def psFactsY_E : Res := []
theorem psFactsY_C : Tryd.f33.body.bind (comp Tryd.prog psFactsY_M Tryd.f33.ntmps) = some psFactsY_S := by kernel_rfl
theorem psFactsY_R : resE Tryd.prog psFactsY_M Tryd.f33.results.toList = some psFactsY_E := by kernel_rfl
theorem psFactsY_H (G : Ctr) (hG : GOk Tryd.prog G) (a0 : Value) (a1 : Value) {h : H} {K : Value → H → Prop} {KP : List PanicEntry → H → Prop} (Hw : wpS G psFactsY_S (retQ psFactsY_E (callK K KP)) (envOf 0 [a0, a1] env0) h) : HCX Tryd.prog 33 [a0, a1] h K KP :=
  .inl ⟨by kernel_rfl, hc_of mixed hG Tryd.func33 psFactsY_C psFactsY_R (of_decide_eq_true (by kernel_rfl)) Hw⟩
def psFacts_M : Nat → Bool := fun i => Nat.testBit 2109 i
def psFacts_S : S :=
  (.seq (.sts [(.set 2 (.c (.slice none 0 0))),
    (.eff [] (some 3) (.alloc 27 #[(.int .i64 0), (.int .i64 0), (.int .i64 0)]) [] [])]) (.seq (.sts [(.eff [] (some 4) (.alloc 29 #[(.slice none 0 0)]) [] [])]) (.seq (.sts [(.eff [] (some 7) (.mkf (.func 33) 0) [(.t 4)] []),
    (.eff [] (some 8) (.call 25) [(.t 0), (.t 7)] []),
    (.eff [] (some 5) (.alloc 27 #[(.int .i64 0), (.int .i64 0), (.int .i64 0)]) [] []),
    (.eff [] none (.store 3) [(.t 5), (.t 8)] [])]) (.seq (.seq (.sts [(.chk [] (.c1 (.fld 0) (.t 5))),
    (.chk [] (.c1 .ld1 (.o1 (.fld 0) (.t 5)))),
    (.chk [] (.c2 (.bin .neq) (.o1 .ld1 (.o1 (.fld 0) (.t 5))) (.c (.int .i64 0)))),
    (.set 11 (.o2 (.bin .neq) (.o1 .ld1 (.o1 (.fld 0) (.t 5))) (.c (.int .i64 0))))]) (.cond 11 (.seq (.sts [(.chk [] (.c1 (.ldn 3) (.t 5))),
    (.set 2 (.c (.slice none 0 0))),
    (.set 12 (.o1 (.ldn 3) (.t 5))),
    (.eff [] none (.store 3) [(.t 3), (.t 12)] [])]) .ret) .skip)) (.seq (.sts [(.chk [] (.c1 .ld1 (.t 4))),
    (.chk [] (.c1 (.ldn 3) (.t 5))),
    (.set 2 (.o1 .ld1 (.t 4))),
    (.set 14 (.o1 (.ldn 3) (.t 5))),
    (.eff [] none (.store 3) [(.t 3), (.t 14)] [])]) .ret)))))
def psFacts_E : Res := [(none, (.t 2)), ((some (.c1 (.ldn 3) (.t 3))), (.o1 (.ldn 3) (.t 3)))]
theorem psFacts_C : Tryd.f13.body.bind (comp Tryd.prog psFacts_M Tryd.f13.ntmps) = some psFacts_S := by kernel_rfl
theorem psFacts_R : resE Tryd.prog psFacts_M Tryd.f13.results.toList = some psFacts_E := by kernel_rfl
theorem psFacts_H (G : Ctr) (hG : GOk Tryd.prog G) (a0 : Value) {h : H} {K : Value → H → Prop} {KP : List PanicEntry → H → Prop} (Hw : wpS G psFacts_S (retQ psFacts_E (callK K KP)) (envOf 0 [a0] env0) h) : HCX Tryd.prog 13 [a0] h K KP :=
  .inl ⟨by kernel_rfl, hc_of mixed hG Tryd.func13 psFacts_C psFacts_R (of_decide_eq_true (by kernel_rfl)) Hw⟩
def psQueryY_M : Nat → Bool := fun i => Nat.testBit 3 i
def psQueryY_S : S :=
  (.seq (.sts [(.eff [] (some 4) (.call 31) [(.t 0)] []),
    (.eff [] none (.store 1) [(.t 1), (.t 4)] [])]) (.sts [(.eff [] (some 6) (.call 32) [(.t 0), (.c (.int .i64 0))] [])]))
def psQueryY_E : Res := []
theorem psQueryY_C : Tryd.f30.body.bind (comp Tryd.prog psQueryY_M Tryd.f30.ntmps) = some psQueryY_S := by kernel_rfl
theorem psQueryY_R : resE Tryd.prog psQueryY_M Tryd.f30.results.toList = some psQueryY_E := by kernel_rfl
theorem psQueryY_H (G : Ctr) (hG : GOk Tryd.prog G) (a0 : Value) (a1 : Value) {h : H} {K : Value → H → Prop} {KP : List PanicEntry → H → Prop} (Hw : wpS G psQueryY_S (retQ psQueryY_E (callK K KP)) (envOf 0 [a0, a1] env0) h) : HCX Tryd.prog 30 [a0, a1] h K KP :=
  .inl ⟨by kernel_rfl, hc_of mixed hG Tryd.func30 psQueryY_C psQueryY_R (of_decide_eq_true (by kernel_rfl)) Hw⟩
def psQuery_M : Nat → Bool := fun i => Nat.testBit 2109 i
def psQuery_S : S :=
  (.seq (.sts [(.set 2 (.c (.slice none 0 0))),
    (.eff [] (some 3) (.alloc 27 #[(.int .i64 0), (.int .i64 0), (.int .i64 0)]) [] [])]) (.seq (.sts [(.eff [] (some 4) (.alloc 28 #[(.slice none 0 0)]) [] [])]) (.seq (.sts [(.eff [] (some 7) (.mkf (.func 30) 0) [(.t 4)] []),
    (.eff [] (some 8) (.call 25) [(.t 0), (.t 7)] []),
    (.eff [] (some 5) (.alloc 27 #[(.int .i64 0), (.int .i64 0), (.int .i64 0)]) [] []),
    (.eff [] none (.store 3) [(.t 5), (.t 8)] [])]) (.seq (.seq (.sts [(.chk [] (.c1 (.fld 0) (.t 5))),
    (.chk [] (.c1 .ld1 (.o1 (.fld 0) (.t 5)))),
    (.chk [] (.c2 (.bin .neq) (.o1 .ld1 (.o1 (.fld 0) (.t 5))) (.c (.int .i64 0)))),
    (.set 11 (.o2 (.bin .neq) (.o1 .ld1 (.o1 (.fld 0) (.t 5))) (.c (.int .i64 0))))]) (.cond 11 (.seq (.sts [(.chk [] (.c1 (.ldn 3) (.t 5))),
    (.set 2 (.c (.slice none 0 0))),
    (.set 12 (.o1 (.ldn 3) (.t 5))),
    (.eff [] none (.store 3) [(.t 3), (.t 12)] [])]) .ret) .skip)) (.seq (.sts [(.chk [] (.c1 .ld1 (.t 4))),
    (.chk [] (.c1 (.ldn 3) (.t 5))),
    (.set 2 (.o1 .ld1 (.t 4))),
    (.set 14 (.o1 (.ldn 3) (.t 5))),
    (.eff [] none (.store 3) [(.t 3), (.t 14)] [])]) .ret)))))
def psQuery_E : Res := [(none, (.t 2)), ((some (.c1 (.ldn 3) (.t 3))), (.o1 (.ldn 3) (.t 3)))]
theorem psQuery_C : Tryd.f12.body.bind (comp Tryd.prog psQuery_M Tryd.f12.ntmps) = some psQuery_S := by kernel_rfl
theorem psQuery_R : resE Tryd.prog psQuery_M Tryd.f12.results.toList = some psQuery_E := by kernel_rfl
theorem psQuery_H (G : Ctr) (hG : GOk Tryd.prog G) (a0 : Value) {h : H} {K : Value → H → Prop} {KP : List PanicEntry → H → Prop} (Hw : wpS G psQuery_S (retQ psQuery_E (callK K KP)) (envOf 0 [a0] env0) h) : HCX Tryd.prog 12 [a0] h K KP :=
  .inl ⟨by kernel_rfl, hc_of mixed hG Tryd.func12 psQuery_C psQuery_R (of_decide_eq_true (by kernel_rfl)) Hw⟩
def psFactY_M : Nat → Bool := fun i => Nat.testBit 245803 i
def psFactY_L1 : S :=
  (.seq (.sts [(.chk [] (.c2 (.bin .lss) (.t 16) (.t 15))),
    (.set 17 (.o2 (.bin .lss) (.t 16) (.t 15)))]) (.seq (.cond 17 .skip (.exit 0)) (.seq (.block 1 (.seq (.sts [(.chk [] (.c2 (.idxA 4) (.t 14) (.t 16))),
    (.chk [] (.c1 (.ldn 4) (.o2 (.idxA 4) (.t 14) (.t 16)))),
    (.set 19 (.o1 (.ldn 4) (.o2 (.idxA 4) (.t 14) (.t 16)))),
    (.eff [] (some 5) (.alloc 72 #[(.int .i64 0), (.int .i64 0), (str []), (.int .i64 0)]) [] []),
    (.eff [] none (.store 4) [(.t 5), (.t 19)] [])]) (.sts [(.chk [] (.c1 (.fld 1) (.t 1))),
    (.chk [] (.c1 .ld1 (.o1 (.fld 1) (.t 1)))),
    (.chk [] (.c1 (.fld 0) (.t 5))),
    (.chk [] (.c1 .ld1 (.o1 (.fld 0) (.t 5)))),
    (.chk [] (.c1 (.fld 1) (.t 5))),
    (.chk [] (.c1 .ld1 (.o1 (.fld 1) (.t 5)))),
    (.chk [] (.c1 (.fld 2) (.t 5))),
    (.chk [] (.c1 .ld1 (.o1 (.fld 2) (.t 5)))),
    (.chk [] (.cb 3 [(0, (1, (.o1 .ld1 (.o1 (.fld 0) (.t 5))))), (1, (1, (.o1 .ld1 (.o1 (.fld 1) (.t 5))))), (2, (1, (.o1 .ld1 (.o1 (.fld 2) (.t 5)))))])),
    (.set 28 (.o2 (.put 2 1) (.o2 (.put 1 1) (.o2 (.put 0 1) (.c (.agg #[(.int .i64 0), (.int .i64 0), (str [])])) (.o1 .ld1 (.o1 (.fld 0) (.t 5)))) (.o1 .ld1 (.o1 (.fld 1) (.t 5)))) (.o1 .ld1 (.o1 (.fld 2) (.t 5))))),
    (.set 21 (.o1 .ld1 (.o1 (.fld 1) (.t 1)))),
    (.eff [] (some 29) (.bsl 76 3 1 [(.int .i64 0), (.int .i64 0), (str [])] [0]) [(.t 28)] []),
    (.eff [] (some 30) (.app 76 3 32 [(.int .i64 0), (.int .i64 0), (str [])]) [(.t 21), (.t 29)] []),
    (.chk [] (.c1 (.fld 1) (.t 1))),
    (.eff [] none (.store 1) [(.o1 (.fld 1) (.t 1)), (.t 30)] [])]))) (.sts [(.chk [] (.c2 (.bin .add) (.t 16) (.c (.int .i64 1)))),
    (.set 32 (.o2 (.bin .add) (.t 16) (.c (.int .i64 1)))),
    (.set 16 (.t 32))]))))
def psFactY_S : S :=
  (.seq (.sts [(.eff [] (some 7) (.call 34) [(.t 0), (.c (.bool false))] []),
    (.eff [] (some 3) (.alloc 60 #[(str []), (.slice none 0 0), (.int .i64 0)]) [] []),
    (.eff [] none (.store 3) [(.t 3), (.t 7)] [])]) (.seq (.sts [(.eff [] (some 9) (.call 32) [(.t 0), (.c (.int .i64 0))] [])]) (.seq (.sts [(.chk [] (.c1 (.fld 0) (.t 3))),
    (.chk [] (.c1 .ld1 (.o1 (.fld 0) (.t 3)))),
    (.chk [] (.c1 (.fld 0) (.t 1))),
    (.set 11 (.o1 .ld1 (.o1 (.fld 0) (.t 3)))),
    (.eff [] none (.store 1) [(.o1 (.fld 0) (.t 1)), (.t 11)] [])]) (.seq (.sts [(.chk [] (.c1 (.fld 1) (.t 3))),
    (.chk [] (.c1 .ld1 (.o1 (.fld 1) (.t 3)))),
    (.set 14 (.o1 .ld1 (.o1 (.fld 1) (.t 3)))),
    (.chk [] (.c1 .len (.t 14))),
    (.set 15 (.o1 .len (.t 14))),
    (.set 16 (.c (.int .i64 0)))]) (.block 0 (.loop psFactY_L1))))))
def psFactY_E : Res := []
theorem psFactY_C : Tryd.f35.body.bind (comp Tryd.prog psFactY_M Tryd.f35.ntmps) = some psFactY_S := by kernel_rfl
theorem psFactY_R : resE Tryd.prog psFactY_M Tryd.f35.results.toList = some psFactY_E := by kernel_rfl
theorem psFactY_H (G : Ctr) (hG : GOk Tryd.prog G) (a0 : Value) (a1 : Value) {h : H} {K : Value → H → Prop} {KP : List PanicEntry → H → Prop} (Hw : wpS G psFactY_S (retQ psFactY_E (callK K KP)) (envOf 0 [a0, a1] env0) h) : HCX Tryd.prog 35 [a0, a1] h K KP :=
  .inl ⟨by kernel_rfl, hc_of mixed hG Tryd.func35 psFactY_C psFactY_R (of_decide_eq_true (by kernel_rfl)) Hw⟩
def psFact_M : Nat → Bool := fun i => Nat.testBit 2109 i
def psFact_S : S :=
  (.seq (.sts [(.eff [] (some 2) (.alloc 32 #[(str []), (.slice none 0 0)]) [] []),
    (.eff [] (some 3) (.alloc 27 #[(.int .i64 0), (.int .i64 0), (.int .i64 0)]) [] [])]) (.seq (.sts [(.eff [] (some 4) (.alloc 32 #[(str []), (.slice none 0 0)]) [] [])]) (.seq (.sts [(.eff [] (some 7) (.mkf (.func 35) 0) [(.t 4)] []),
    (.eff [] (some 8) (.call 25) [(.t 0), (.t 7)] []),
    (.eff [] (some 5) (.alloc 27 #[(.int .i64 0), (.int .i64 0), (.int .i64 0)]) [] []),
    (.eff [] none (.store 3) [(.t 5), (.t 8)] [])]) (.seq (.seq (.sts [(.chk [] (.c1 (.fld 0) (.t 5))),
    (.chk [] (.c1 .ld1 (.o1 (.fld 0) (.t 5)))),
    (.chk [] (.c2 (.bin .neq) (.o1 .ld1 (.o1 (.fld 0) (.t 5))) (.c (.int .i64 0)))),
    (.set 11 (.o2 (.bin .neq) (.o1 .ld1 (.o1 (.fld 0) (.t 5))) (.c (.int .i64 0))))]) (.cond 11 (.seq (.sts [(.chk [] (.cb 2 [])),
    (.chk [] (.c1 (.ldn 3) (.t 5))),
    (.set 13 (.o1 (.ldn 3) (.t 5))),
    (.eff [] none (.store 2) [(.t 2), (.c (.agg #[(str []), (.slice none 0 0)]))] [([], ((.t 5), (some 3)))]),
    (.eff [] none (.store 3) [(.t 3), (.t 13)] [])]) .ret) .skip)) (.seq (.sts [(.chk [] (.c1 (.ldn 2) (.t 4))),
    (.chk [] (.c1 (.ldn 3) (.t 5))),
    (.set 15 (.o1 (.ldn 3) (.t 5))),
    (.set 14 (.o1 (.ldn 2) (.t 4))),
    (.eff [] none (.store 2) [(.t 2), (.t 14)] [([], ((.t 5), (some 3)))]),
    (.eff [] none (.store 3) [(.t 3), (.t 15)] [])]) .ret)))))
def psFact_E : Res := [((some (.c1 (.ldn 2) (.t 2))), (.o1 (.ldn 2) (.t 2))), ((some (.c1 (.ldn 3) (.t 3))), (.o1 (.ldn 3) (.t 3)))]
theorem psFact_C : Tryd.f14.body.bind (comp Tryd.prog psFact_M Tryd.f14.ntmps) = some psFact_S := by kernel_rfl
theorem psFact_R : resE Tryd.prog psFact_M Tryd.f14.results.toList = some psFact_E := by kernel_rfl
theorem psFact_H (G : Ctr) (hG : GOk Tryd.prog G) (a0 : Value) {h : H} {K : Value → H → Prop} {KP : List PanicEntry → H → Prop} (Hw : wpS G psFact_S (retQ psFact_E (callK K KP)) (envOf 0 [a0] env0) h) : HCX Tryd.prog 14 [a0] h K KP :=
  .inl ⟨by kernel_rfl, hc_of mixed hG Tryd.func14 psFact_C psFact_R (of_decide_eq_true (by kernel_rfl)) Hw⟩
end Go.Proofs.YtlenjlidahnklaaDoor
