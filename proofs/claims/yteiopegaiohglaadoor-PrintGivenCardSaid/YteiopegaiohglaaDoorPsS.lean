/- The small statements of functions of the program, as the closed computation gives them (written by a program of ours; checked by the kernel below). -/
import Derived.Test.YteiopegaiohglaaDoorEvB
import Derived.Test.YteiopegaiohglaaDoorProg
import Derived.KernelRfl
import Derived.Test.YteiopegaiohglaaDoorTokS
namespace Go.Proofs.YteiopegaiohglaaDoor
open Go Go.Ev
def psPeek_M : Nat → Bool := fun i => Nat.testBit 4101 i
def psPeek_S : S :=
  (.seq (.sts [(.eff [] (some 2) (.alloc 64 #[(.int .i64 0), (str []), (.int .i64 0), (.int .i64 0), (.int .i64 0), (.int .i64 0)]) [] [])]) (.seq (.seq (.sts [(.chk [] (.c1 .nilck (.t 0))),
    (.chk [] (.c1 (.fld 1) (.t 0))),
    (.chk [] (.c1 .ld1 (.o1 (.fld 1) (.t 0)))),
    (.chk [] (.c1 .nilck (.t 0))),
    (.chk [] (.c1 (.fld 0) (.t 0))),
    (.chk [] (.c1 .ld1 (.o1 (.fld 0) (.t 0)))),
    (.chk [] (.c1 .len (.o1 .ld1 (.o1 (.fld 0) (.t 0))))),
    (.chk [] (.c2 (.bin .geq) (.o1 .ld1 (.o1 (.fld 1) (.t 0))) (.o1 .len (.o1 .ld1 (.o1 (.fld 0) (.t 0)))))),
    (.set 12 (.o2 (.bin .geq) (.o1 .ld1 (.o1 (.fld 1) (.t 0))) (.o1 .len (.o1 .ld1 (.o1 (.fld 0) (.t 0))))))]) (.cond 12 (.sts [(.chk [] (.c1 .nilck (.t 0))),
    (.chk [] (.c1 (.fld 2) (.t 0))),
    (.chk [] (.c1 (.fld 0) (.o1 (.fld 2) (.t 0)))),
    (.chk [] (.c1 .ld1 (.o1 (.fld 0) (.o1 (.fld 2) (.t 0))))),
    (.chk [] (.c1 .nilck (.t 0))),
    (.chk [] (.c1 (.fld 2) (.t 0))),
    (.chk [] (.c1 (.fld 2) (.o1 (.fld 2) (.t 0)))),
    (.chk [] (.c1 .ld1 (.o1 (.fld 2) (.o1 (.fld 2) (.t 0))))),
    (.chk [] (.cb 3 [(0, (1, (.o1 .ld1 (.o1 (.fld 0) (.o1 (.fld 2) (.t 0)))))), (2, (1, (.o1 .ld1 (.o1 (.fld 2) (.o1 (.fld 2) (.t 0))))))])),
    (.chk [] (.cb 3 [(0, (3, (.o2 (.put 2 1) (.o2 (.put 0 1) (.c (.agg #[(.int .i64 0), (.int .i64 0), (.int .i64 0)])) (.o1 .ld1 (.o1 (.fld 0) (.o1 (.fld 2) (.t 0))))) (.o1 .ld1 (.o1 (.fld 2) (.o1 (.fld 2) (.t 0)))))))])),
    (.chk [] (.c1 (.mki 86) (.o2 (.put 0 3) (.c (.agg #[(.int .i64 0), (.int .i64 0), (.int .i64 0)])) (.o2 (.put 2 1) (.o2 (.put 0 1) (.c (.agg #[(.int .i64 0), (.int .i64 0), (.int .i64 0)])) (.o1 .ld1 (.o1 (.fld 0) (.o1 (.fld 2) (.t 0))))) (.o1 .ld1 (.o1 (.fld 2) (.o1 (.fld 2) (.t 0)))))))),
    (.set 25 (.o1 (.mki 86) (.o2 (.put 0 3) (.c (.agg #[(.int .i64 0), (.int .i64 0), (.int .i64 0)])) (.o2 (.put 2 1) (.o2 (.put 0 1) (.c (.agg #[(.int .i64 0), (.int .i64 0), (.int .i64 0)])) (.o1 .ld1 (.o1 (.fld 0) (.o1 (.fld 2) (.t 0))))) (.o1 .ld1 (.o1 (.fld 2) (.o1 (.fld 2) (.t 0)))))))),
    (.eff [] none .pnc [(.t 25)] [])]) .skip)) (.seq (.sts [(.chk [] (.c1 .nilck (.t 0))),
    (.chk [] (.c1 (.fld 0) (.t 0))),
    (.chk [] (.c1 .ld1 (.o1 (.fld 0) (.t 0)))),
    (.chk [] (.c1 .nilck (.t 0))),
    (.chk [] (.c1 (.fld 1) (.t 0))),
    (.chk [] (.c1 .ld1 (.o1 (.fld 1) (.t 0)))),
    (.chk [] (.c2 (.idxA 6) (.o1 .ld1 (.o1 (.fld 0) (.t 0))) (.o1 .ld1 (.o1 (.fld 1) (.t 0))))),
    (.chk [] (.c1 (.ldn 6) (.o2 (.idxA 6) (.o1 .ld1 (.o1 (.fld 0) (.t 0))) (.o1 .ld1 (.o1 (.fld 1) (.t 0)))))),
    (.set 35 (.o1 (.ldn 6) (.o2 (.idxA 6) (.o1 .ld1 (.o1 (.fld 0) (.t 0))) (.o1 .ld1 (.o1 (.fld 1) (.t 0)))))),
    (.set 34 (.o2 (.idxA 6) (.o1 .ld1 (.o1 (.fld 0) (.t 0))) (.o1 .ld1 (.o1 (.fld 1) (.t 0))))),
    (.eff [] none (.store 6) [(.t 2), (.t 35)] [])]) .ret)))
def psPeek_E : Res := [((some (.c1 (.ldn 6) (.t 2))), (.o1 (.ldn 6) (.t 2)))]
theorem psPeek_C : Tryd.f24.body.bind (comp Tryd.prog psPeek_M Tryd.f24.ntmps) = some psPeek_S := by kernel_rfl
theorem psPeek_R : resE Tryd.prog psPeek_M Tryd.f24.results.toList = some psPeek_E := by kernel_rfl
theorem psPeek_H (G : Ctr) (hG : GOk Tryd.prog G) (a0 : Value) {h : H} {K : Value → H → Prop} {KP : List PanicEntry → H → Prop} (Hw : wpS G psPeek_S (retQ psPeek_E (callK K KP)) (envOf 0 [a0] env0) h) : HCX Tryd.prog 24 [a0] h K KP :=
  .inl ⟨by kernel_rfl, hc_of mixed hG Tryd.func24 psPeek_C psPeek_R (of_decide_eq_true (by kernel_rfl)) Hw⟩
def psStop_M : Nat → Bool := fun i => Nat.testBit 3 i
def psStop_S : S :=
  (.sts [(.eff [] (some 6) (.call 24) [(.t 0)] []),
    (.chk [] (.c1 (.part 4) (.t 6))),
    (.chk [] (.cb 3 [(0, (1, (.t 1))), (2, (1, (.o1 (.part 4) (.t 6))))])),
    (.chk [] (.cb 3 [(0, (3, (.o2 (.put 2 1) (.o2 (.put 0 1) (.c (.agg #[(.int .i64 0), (.int .i64 0), (.int .i64 0)])) (.t 1)) (.o1 (.part 4) (.t 6)))))])),
    (.chk [] (.c1 (.mki 86) (.o2 (.put 0 3) (.c (.agg #[(.int .i64 0), (.int .i64 0), (.int .i64 0)])) (.o2 (.put 2 1) (.o2 (.put 0 1) (.c (.agg #[(.int .i64 0), (.int .i64 0), (.int .i64 0)])) (.t 1)) (.o1 (.part 4) (.t 6)))))),
    (.eff [] none .pnc [(.o1 (.mki 86) (.o2 (.put 0 3) (.c (.agg #[(.int .i64 0), (.int .i64 0), (.int .i64 0)])) (.o2 (.put 2 1) (.o2 (.put 0 1) (.c (.agg #[(.int .i64 0), (.int .i64 0), (.int .i64 0)])) (.t 1)) (.o1 (.part 4) (.t 6)))))] [])])
def psStop_E : Res := []
theorem psStop_C : Tryd.f25.body.bind (comp Tryd.prog psStop_M Tryd.f25.ntmps) = some psStop_S := by kernel_rfl
theorem psStop_R : resE Tryd.prog psStop_M Tryd.f25.results.toList = some psStop_E := by kernel_rfl
theorem psStop_H (G : Ctr) (hG : GOk Tryd.prog G) (a0 : Value) (a1 : Value) {h : H} {K : Value → H → Prop} {KP : List PanicEntry → H → Prop} (Hw : wpS G psStop_S (retQ psStop_E (callK K KP)) (envOf 0 [a0, a1] env0) h) : HCX Tryd.prog 25 [a0, a1] h K KP :=
  .inl ⟨by kernel_rfl, hc_of mixed hG Tryd.func25 psStop_C psStop_R (of_decide_eq_true (by kernel_rfl)) Hw⟩
def psRefuse_M : Nat → Bool := fun i => Nat.testBit 33 i
def psRefuse_S : S :=
  (.seq (.seq (.sts [(.eff [] (some 3) (.call 24) [(.t 0)] []),
    (.chk [] (.c1 (.part 0) (.t 3))),
    (.chk [] (.c2 (.bin .eql) (.o1 (.part 0) (.t 3)) (.c (.int .i64 0)))),
    (.set 5 (.o2 (.bin .eql) (.o1 (.part 0) (.t 3)) (.c (.int .i64 0))))]) (.cond 5 (.sts [(.eff [] (some 7) (.call 25) [(.t 0), (.c (.int .i64 21))] [])]) .skip)) (.sts [(.eff [] (some 9) (.call 25) [(.t 0), (.c (.int .i64 20))] [])]))
def psRefuse_E : Res := []
theorem psRefuse_C : Tryd.f39.body.bind (comp Tryd.prog psRefuse_M Tryd.f39.ntmps) = some psRefuse_S := by kernel_rfl
theorem psRefuse_R : resE Tryd.prog psRefuse_M Tryd.f39.results.toList = some psRefuse_E := by kernel_rfl
theorem psRefuse_H (G : Ctr) (hG : GOk Tryd.prog G) (a0 : Value) {h : H} {K : Value → H → Prop} {KP : List PanicEntry → H → Prop} (Hw : wpS G psRefuse_S (retQ psRefuse_E (callK K KP)) (envOf 0 [a0] env0) h) : HCX Tryd.prog 39 [a0] h K KP :=
  .inl ⟨by kernel_rfl, hc_of mixed hG Tryd.func39 psRefuse_C psRefuse_R (of_decide_eq_true (by kernel_rfl)) Hw⟩
def psTake_M : Nat → Bool := fun i => Nat.testBit 34867 i
def psTake_S : S :=
  (.seq (.sts [(.eff [] (some 4) (.alloc 64 #[(.int .i64 0), (str []), (.int .i64 0), (.int .i64 0), (.int .i64 0), (.int .i64 0)]) [] [])]) (.seq (.sts [(.eff [] (some 7) (.call 24) [(.t 0)] []),
    (.eff [] (some 5) (.alloc 64 #[(.int .i64 0), (str []), (.int .i64 0), (.int .i64 0), (.int .i64 0), (.int .i64 0)]) [] []),
    (.eff [] none (.store 6) [(.t 5), (.t 7)] [])]) (.seq (.seq (.sts [(.chk [] (.c1 (.fld 0) (.t 5))),
    (.chk [] (.c1 .ld1 (.o1 (.fld 0) (.t 5)))),
    (.chk [] (.c2 (.bin .neq) (.o1 .ld1 (.o1 (.fld 0) (.t 5))) (.t 1))),
    (.set 11 (.o2 (.bin .neq) (.o1 .ld1 (.o1 (.fld 0) (.t 5))) (.t 1)))]) (.cond 11 (.sts [(.eff [] (some 13) (.call 39) [(.t 0)] [])]) .skip)) (.seq (.seq (.sts [(.chk [] (.c2 (.bin .neq) (.t 1) (.c (.int .i64 0)))),
    (.set 15 (.o2 (.bin .neq) (.t 1) (.c (.int .i64 0))))]) (.cond 15 (.sts [(.chk [] (.c1 .nilck (.t 0))),
    (.chk [] (.c1 (.fld 1) (.t 0))),
    (.chk [] (.c1 .ld1 (.o1 (.fld 1) (.t 0)))),
    (.chk [] (.c2 (.bin .add) (.o1 .ld1 (.o1 (.fld 1) (.t 0))) (.c (.int .i64 1)))),
    (.chk [] (.c1 .nilck (.t 0))),
    (.chk [] (.c1 (.fld 1) (.t 0))),
    (.set 20 (.o2 (.bin .add) (.o1 .ld1 (.o1 (.fld 1) (.t 0))) (.c (.int .i64 1)))),
    (.eff [] none (.store 1) [(.o1 (.fld 1) (.t 0)), (.t 20)] [])]) .skip)) (.seq (.sts [(.chk [] (.c1 (.ldn 6) (.t 5))),
    (.set 23 (.o1 (.ldn 6) (.t 5))),
    (.eff [] none (.store 6) [(.t 4), (.t 23)] [])]) .ret)))))
def psTake_E : Res := [((some (.c1 (.ldn 6) (.t 4))), (.o1 (.ldn 6) (.t 4)))]
theorem psTake_C : Tryd.f21.body.bind (comp Tryd.prog psTake_M Tryd.f21.ntmps) = some psTake_S := by kernel_rfl
theorem psTake_R : resE Tryd.prog psTake_M Tryd.f21.results.toList = some psTake_E := by kernel_rfl
theorem psTake_H (G : Ctr) (hG : GOk Tryd.prog G) (a0 : Value) (a1 : Value) {h : H} {K : Value → H → Prop} {KP : List PanicEntry → H → Prop} (Hw : wpS G psTake_S (retQ psTake_E (callK K KP)) (envOf 0 [a0, a1] env0) h) : HCX Tryd.prog 21 [a0, a1] h K KP :=
  .inl ⟨by kernel_rfl, hc_of mixed hG Tryd.func21 psTake_C psTake_R (of_decide_eq_true (by kernel_rfl)) Hw⟩
def psIsTerm_M : Nat → Bool := fun i => Nat.testBit 1139 i
def psIsTerm_S : S :=
  (.seq (.sts [(.set 4 (.c (.bool false)))]) (.seq (.seq (.sts [(.set 5 (.t 0))]) (.block 0 (.seq (.seq (.sts [(.chk [] (.c2 (.bin .eql) (.t 5) (.c (.int .i64 1)))),
    (.set 6 (.o2 (.bin .eql) (.t 5) (.c (.int .i64 1))))]) (.cond 6 .skip (.seq (.sts [(.chk [] (.c2 (.bin .eql) (.t 5) (.c (.int .i64 3)))),
    (.set 6 (.o2 (.bin .eql) (.t 5) (.c (.int .i64 3))))]) (.cond 6 .skip (.sts [(.chk [] (.c2 (.bin .eql) (.t 5) (.c (.int .i64 4)))),
    (.set 6 (.o2 (.bin .eql) (.t 5) (.c (.int .i64 4))))]))))) (.cond 6 (.seq (.sts [(.set 4 (.c (.bool true)))]) .ret) (.seq (.sts [(.chk [] (.c2 (.bin .eql) (.t 5) (.c (.int .i64 2)))),
    (.set 10 (.o2 (.bin .eql) (.t 5) (.c (.int .i64 2))))]) (.cond 10 (.seq (.sts [(.set 4 (.t 1))]) .ret) .skip)))))) (.seq (.sts [(.set 4 (.c (.bool false)))]) .ret)))
def psIsTerm_E : Res := [(none, (.t 4))]
theorem psIsTerm_C : Tryd.f37.body.bind (comp Tryd.prog psIsTerm_M Tryd.f37.ntmps) = some psIsTerm_S := by kernel_rfl
theorem psIsTerm_R : resE Tryd.prog psIsTerm_M Tryd.f37.results.toList = some psIsTerm_E := by kernel_rfl
theorem psIsTerm_H (G : Ctr) (hG : GOk Tryd.prog G) (a0 : Value) (a1 : Value) {h : H} {K : Value → H → Prop} {KP : List PanicEntry → H → Prop} (Hw : wpS G psIsTerm_S (retQ psIsTerm_E (callK K KP)) (envOf 0 [a0, a1] env0) h) : HCX Tryd.prog 37 [a0, a1] h K KP :=
  .inl ⟨by kernel_rfl, hc_of mixed hG Tryd.func37 psIsTerm_C psIsTerm_R (of_decide_eq_true (by kernel_rfl)) Hw⟩
def psTerm_M : Nat → Bool := fun i => Nat.testBit 1238561202291 i
def psTerm_S : S :=
  (.seq (.sts [(.eff [] (some 4) (.alloc 67 #[(.int .i64 0), (.int .i64 0), (str []), (.int .i64 0)]) [] [])]) (.seq (.sts [(.eff [] (some 8) (.call 24) [(.t 0)] []),
    (.eff [] (some 5) (.alloc 64 #[(.int .i64 0), (str []), (.int .i64 0), (.int .i64 0), (.int .i64 0), (.int .i64 0)]) [] []),
    (.eff [] none (.store 6) [(.t 5), (.t 8)] [])]) (.seq (.seq (.sts [(.chk [] (.c1 (.fld 0) (.t 5))),
    (.chk [] (.c1 .ld1 (.o1 (.fld 0) (.t 5)))),
    (.set 10 (.o1 .ld1 (.o1 (.fld 0) (.t 5)))),
    (.eff [] (some 12) (.call 37) [(.t 10), (.t 1)] []),
    (.chk [] (.c1 .not (.t 12))),
    (.set 13 (.o1 .not (.t 12)))]) (.cond 13 (.sts [(.eff [] (some 15) (.call 39) [(.t 0)] [])]) .skip)) (.seq (.sts [(.chk [] (.c1 .nilck (.t 0))),
    (.chk [] (.c1 (.fld 1) (.t 0))),
    (.chk [] (.c1 .ld1 (.o1 (.fld 1) (.t 0)))),
    (.chk [] (.c2 (.bin .add) (.o1 .ld1 (.o1 (.fld 1) (.t 0))) (.c (.int .i64 1)))),
    (.chk [] (.c1 .nilck (.t 0))),
    (.chk [] (.c1 (.fld 1) (.t 0))),
    (.set 20 (.o2 (.bin .add) (.o1 .ld1 (.o1 (.fld 1) (.t 0))) (.c (.int .i64 1)))),
    (.eff [] none (.store 1) [(.o1 (.fld 1) (.t 0)), (.t 20)] [])]) (.seq (.sts [(.chk [] (.c1 (.fld 1) (.t 5))),
    (.chk [] (.c1 .ld1 (.o1 (.fld 1) (.t 5)))),
    (.chk [] (.c1 (.fld 4) (.t 5))),
    (.chk [] (.c1 .ld1 (.o1 (.fld 4) (.t 5)))),
    (.chk [] (.cb 4 [(0, (1, (.c (.int .i64 4)))), (2, (1, (.o1 .ld1 (.o1 (.fld 1) (.t 5))))), (3, (1, (.o1 .ld1 (.o1 (.fld 4) (.t 5)))))])),
    (.set 27 (.o2 (.put 3 1) (.o2 (.put 2 1) (.o2 (.put 0 1) (.c (.agg #[(.int .i64 0), (.int .i64 0), (str []), (.int .i64 0)])) (.c (.int .i64 4))) (.o1 .ld1 (.o1 (.fld 1) (.t 5)))) (.o1 .ld1 (.o1 (.fld 4) (.t 5))))),
    (.eff [] (some 6) (.alloc 67 #[(.int .i64 0), (.int .i64 0), (str []), (.int .i64 0)]) [] []),
    (.eff [] none (.store 4) [(.t 6), (.t 27)] [])]) (.seq (.seq (.sts [(.chk [] (.c1 (.fld 0) (.t 5))),
    (.chk [] (.c1 .ld1 (.o1 (.fld 0) (.t 5)))),
    (.set 29 (.o1 .ld1 (.o1 (.fld 0) (.t 5))))]) (.block 0 (.seq (.sts [(.chk [] (.c2 (.bin .eql) (.t 29) (.c (.int .i64 3)))),
    (.set 30 (.o2 (.bin .eql) (.t 29) (.c (.int .i64 3))))]) (.cond 30 (.sts [(.chk [] (.c1 (.fld 2) (.t 5))),
    (.chk [] (.c1 .ld1 (.o1 (.fld 2) (.t 5)))),
    (.chk [] (.c1 (.fld 0) (.t 6))),
    (.set 33 (.o1 .ld1 (.o1 (.fld 2) (.t 5)))),
    (.eff [] none (.store 1) [(.o1 (.fld 0) (.t 6)), (.c (.int .i64 1))] [([], ((.o1 (.fld 2) (.t 5)), none))]),
    (.chk [] (.c1 (.fld 1) (.t 6))),
    (.eff [] none (.store 1) [(.o1 (.fld 1) (.t 6)), (.t 33)] []),
    (.chk [] (.c1 (.fld 2) (.t 6))),
    (.eff [] none (.store 1) [(.o1 (.fld 2) (.t 6)), (.c (str []))] [])]) (.seq (.sts [(.chk [] (.c2 (.bin .eql) (.t 29) (.c (.int .i64 1)))),
    (.set 37 (.o2 (.bin .eql) (.t 29) (.c (.int .i64 1))))]) (.cond 37 (.sts [(.chk [] (.c1 (.fld 0) (.t 6))),
    (.eff [] none (.store 1) [(.o1 (.fld 0) (.t 6)), (.c (.int .i64 2))] [])]) (.seq (.sts [(.chk [] (.c2 (.bin .eql) (.t 29) (.c (.int .i64 4)))),
    (.set 40 (.o2 (.bin .eql) (.t 29) (.c (.int .i64 4))))]) (.cond 40 (.sts [(.chk [] (.c1 (.fld 0) (.t 6))),
    (.eff [] none (.store 1) [(.o1 (.fld 0) (.t 6)), (.c (.int .i64 3))] [])]) .skip)))))))) (.seq (.sts [(.chk [] (.c1 (.ldn 4) (.t 6))),
    (.set 43 (.o1 (.ldn 4) (.t 6))),
    (.eff [] none (.store 4) [(.t 4), (.t 43)] [])]) .ret)))))))
def psTerm_E : Res := [((some (.c1 (.ldn 4) (.t 4))), (.o1 (.ldn 4) (.t 4)))]
theorem psTerm_C : Tryd.f38.body.bind (comp Tryd.prog psTerm_M Tryd.f38.ntmps) = some psTerm_S := by kernel_rfl
theorem psTerm_R : resE Tryd.prog psTerm_M Tryd.f38.results.toList = some psTerm_E := by kernel_rfl
theorem psTerm_H (G : Ctr) (hG : GOk Tryd.prog G) (a0 : Value) (a1 : Value) {h : H} {K : Value → H → Prop} {KP : List PanicEntry → H → Prop} (Hw : wpS G psTerm_S (retQ psTerm_E (callK K KP)) (envOf 0 [a0, a1] env0) h) : HCX Tryd.prog 38 [a0, a1] h K KP :=
  .inl ⟨by kernel_rfl, hc_of mixed hG Tryd.func38 psTerm_C psTerm_R (of_decide_eq_true (by kernel_rfl)) Hw⟩
def psAtom_M : Nat → Bool := fun i => Nat.testBit 2310909627514093683 i
def psAtom_L1 : S :=
  (.block 1 (.seq (.seq (.sts [(.chk [] (.c1 (.fld 1) (.t 6))),
    (.chk [] (.c1 .ld1 (.o1 (.fld 1) (.t 6)))),
    (.chk [] (.c1 .len (.o1 .ld1 (.o1 (.fld 1) (.t 6))))),
    (.chk [] (.c2 (.bin .geq) (.o1 .len (.o1 .ld1 (.o1 (.fld 1) (.t 6)))) (.c (.int .i64 8)))),
    (.set 30 (.o2 (.bin .geq) (.o1 .len (.o1 .ld1 (.o1 (.fld 1) (.t 6)))) (.c (.int .i64 8)))),
    (.eff [((.t 30), true)] (some 32) (.call 24) [(.t 0)] []),
    (.chk [((.t 30), true)] (.c1 (.part 0) (.t 32))),
    (.eff [((.t 30), true)] (some 35) (.call 37) [(.o1 (.part 0) (.t 32)), (.t 1)] []),
    (.chk [] (.c3 .pick (.t 30) (.t 35) (.c (.bool false)))),
    (.set 36 (.o3 .pick (.t 30) (.t 35) (.c (.bool false))))]) (.cond 36 (.sts [(.eff [] (some 38) (.call 25) [(.t 0), (.c (.int .i64 22))] [])]) .skip)) (.seq (.sts [(.chk [] (.c1 (.fld 1) (.t 6))),
    (.chk [] (.c1 .ld1 (.o1 (.fld 1) (.t 6)))),
    (.set 40 (.o1 .ld1 (.o1 (.fld 1) (.t 6)))),
    (.eff [] (some 43) (.call 38) [(.t 0), (.t 1)] [([], ((.o1 (.fld 1) (.t 6)), none))]),
    (.eff [] (some 44) (.bsl 67 4 1 [(.int .i64 0), (.int .i64 0), (str []), (.int .i64 0)] [0]) [(.t 43)] [([], ((.o1 (.fld 1) (.t 6)), none))]),
    (.eff [] (some 45) (.app 67 4 40 [(.int .i64 0), (.int .i64 0), (str []), (.int .i64 0)]) [(.t 40), (.t 44)] []),
    (.chk [] (.c1 (.fld 1) (.t 6))),
    (.eff [] none (.store 1) [(.o1 (.fld 1) (.t 6)), (.t 45)] [])]) (.seq (.sts [(.eff [] (some 48) (.call 24) [(.t 0)] []),
    (.chk [] (.c1 (.part 0) (.t 48))),
    (.set 49 (.o1 (.part 0) (.t 48)))]) (.block 2 (.seq (.sts [(.chk [] (.c2 (.bin .eql) (.t 49) (.c (.int .i64 7)))),
    (.set 52 (.o2 (.bin .eql) (.t 49) (.c (.int .i64 7))))]) (.cond 52 (.sts [(.chk [] (.c1 .nilck (.t 0))),
    (.chk [] (.c1 (.fld 1) (.t 0))),
    (.chk [] (.c1 .ld1 (.o1 (.fld 1) (.t 0)))),
    (.chk [] (.c2 (.bin .add) (.o1 .ld1 (.o1 (.fld 1) (.t 0))) (.c (.int .i64 1)))),
    (.chk [] (.c1 .nilck (.t 0))),
    (.chk [] (.c1 (.fld 1) (.t 0))),
    (.set 58 (.o2 (.bin .add) (.o1 .ld1 (.o1 (.fld 1) (.t 0))) (.c (.int .i64 1)))),
    (.eff [] none (.store 1) [(.o1 (.fld 1) (.t 0)), (.t 58)] [])]) (.seq (.sts [(.chk [] (.c2 (.bin .eql) (.t 49) (.c (.int .i64 6)))),
    (.set 61 (.o2 (.bin .eql) (.t 49) (.c (.int .i64 6))))]) (.cond 61 (.seq (.sts [(.chk [] (.c1 .nilck (.t 0))),
    (.chk [] (.c1 (.fld 1) (.t 0))),
    (.chk [] (.c1 .ld1 (.o1 (.fld 1) (.t 0)))),
    (.chk [] (.c2 (.bin .add) (.o1 .ld1 (.o1 (.fld 1) (.t 0))) (.c (.int .i64 1)))),
    (.chk [] (.c1 .nilck (.t 0))),
    (.chk [] (.c1 (.fld 1) (.t 0))),
    (.set 67 (.o2 (.bin .add) (.o1 .ld1 (.o1 (.fld 1) (.t 0))) (.c (.int .i64 1)))),
    (.eff [] none (.store 1) [(.o1 (.fld 1) (.t 0)), (.t 67)] [])]) (.seq (.sts [(.chk [] (.c1 (.ldn 3) (.t 6))),
    (.set 70 (.o1 (.ldn 3) (.t 6))),
    (.eff [] none (.store 3) [(.t 4), (.t 70)] [])]) .ret)) (.sts [(.eff [] (some 51) (.call 39) [(.t 0)] [])]))))))))))
def psAtom_S : S :=
  (.seq (.sts [(.eff [] (some 4) (.alloc 42 #[(str []), (.slice none 0 0), (.int .i64 0)]) [] [])]) (.seq (.sts [(.eff [] (some 8) (.call 21) [(.t 0), (.c (.int .i64 1))] []),
    (.eff [] (some 5) (.alloc 64 #[(.int .i64 0), (str []), (.int .i64 0), (.int .i64 0), (.int .i64 0), (.int .i64 0)]) [] []),
    (.eff [] none (.store 6) [(.t 5), (.t 8)] [])]) (.seq (.sts [(.chk [] (.c1 (.fld 1) (.t 5))),
    (.chk [] (.c1 .ld1 (.o1 (.fld 1) (.t 5)))),
    (.chk [] (.c1 (.fld 4) (.t 5))),
    (.chk [] (.c1 .ld1 (.o1 (.fld 4) (.t 5)))),
    (.chk [] (.cb 3 [(0, (1, (.o1 .ld1 (.o1 (.fld 1) (.t 5))))), (2, (1, (.o1 .ld1 (.o1 (.fld 4) (.t 5)))))])),
    (.set 13 (.o2 (.put 2 1) (.o2 (.put 0 1) (.c (.agg #[(str []), (.slice none 0 0), (.int .i64 0)])) (.o1 .ld1 (.o1 (.fld 1) (.t 5)))) (.o1 .ld1 (.o1 (.fld 4) (.t 5))))),
    (.eff [] (some 6) (.alloc 42 #[(str []), (.slice none 0 0), (.int .i64 0)]) [] []),
    (.eff [] none (.store 3) [(.t 6), (.t 13)] [])]) (.seq (.seq (.sts [(.eff [] (some 15) (.call 24) [(.t 0)] []),
    (.chk [] (.c1 (.part 0) (.t 15))),
    (.chk [] (.c2 (.bin .neq) (.o1 (.part 0) (.t 15)) (.c (.int .i64 5)))),
    (.set 17 (.o2 (.bin .neq) (.o1 (.part 0) (.t 15)) (.c (.int .i64 5))))]) (.cond 17 (.seq (.sts [(.chk [] (.c1 (.ldn 3) (.t 6))),
    (.set 18 (.o1 (.ldn 3) (.t 6))),
    (.eff [] none (.store 3) [(.t 4), (.t 18)] [])]) .ret) .skip)) (.seq (.sts [(.chk [] (.c1 .nilck (.t 0))),
    (.chk [] (.c1 (.fld 1) (.t 0))),
    (.chk [] (.c1 .ld1 (.o1 (.fld 1) (.t 0)))),
    (.chk [] (.c2 (.bin .add) (.o1 .ld1 (.o1 (.fld 1) (.t 0))) (.c (.int .i64 1)))),
    (.chk [] (.c1 .nilck (.t 0))),
    (.chk [] (.c1 (.fld 1) (.t 0))),
    (.set 23 (.o2 (.bin .add) (.o1 .ld1 (.o1 (.fld 1) (.t 0))) (.c (.int .i64 1)))),
    (.eff [] none (.store 1) [(.o1 (.fld 1) (.t 0)), (.t 23)] [])]) (.block 0 (.loop psAtom_L1)))))))
def psAtom_E : Res := [((some (.c1 (.ldn 3) (.t 4))), (.o1 (.ldn 3) (.t 4)))]
theorem psAtom_C : Tryd.f20.body.bind (comp Tryd.prog psAtom_M Tryd.f20.ntmps) = some psAtom_S := by kernel_rfl
theorem psAtom_R : resE Tryd.prog psAtom_M Tryd.f20.results.toList = some psAtom_E := by kernel_rfl
theorem psAtom_H (G : Ctr) (hG : GOk Tryd.prog G) (a0 : Value) (a1 : Value) {h : H} {K : Value → H → Prop} {KP : List PanicEntry → H → Prop} (Hw : wpS G psAtom_S (retQ psAtom_E (callK K KP)) (envOf 0 [a0, a1] env0) h) : HCX Tryd.prog 20 [a0, a1] h K KP :=
  .inl ⟨by kernel_rfl, hc_of mixed hG Tryd.func20 psAtom_C psAtom_R (of_decide_eq_true (by kernel_rfl)) Hw⟩
def psGuarded_M : Nat → Bool := fun i => Nat.testBit 627 i
def psGuarded_S : S :=
  (.seq (.sts [(.eff [] (some 4) (.alloc 31 #[(.int .i64 0), (.int .i64 0), (.int .i64 0)]) [] [])]) (.seq (.seq (.sts [(.chk [] (.c1 .lens (.t 0))),
    (.chk [] (.c2 (.bin .gtr) (.o1 .lens (.t 0)) (.c (.int .i64 65536)))),
    (.set 9 (.o2 (.bin .gtr) (.o1 .lens (.t 0)) (.c (.int .i64 65536))))]) (.cond 9 (.seq (.sts [(.chk [] (.cb 3 [(0, (1, (.c (.int .i64 1))))])),
    (.eff [] none (.store 3) [(.t 4), (.o2 (.put 0 1) (.c (.agg #[(.int .i64 0), (.int .i64 0), (.int .i64 0)])) (.c (.int .i64 1)))] [])]) .ret) .skip)) (.seq (.sts [(.eff [] (some 11) (.mkf (.func 35) 0) [(.t 4)] []),
    (.eff [] none .dead [] [])]) (.seq (.sts [(.eff [] (some 14) (.call 36) [(.t 0)] []),
    (.chk [] (.c1 (.ext 0) (.t 14))),
    (.chk [] (.c1 (.ext 1) (.t 14))),
    (.eff [] (some 6) (.alloc 31 #[(.int .i64 0), (.int .i64 0), (.int .i64 0)]) [] []),
    (.set 5 (.o1 (.ext 0) (.t 14))),
    (.eff [] none (.store 3) [(.t 6), (.o1 (.ext 1) (.t 14))] [])]) (.seq (.sts [(.chk [] (.c1 (.ldn 3) (.t 6))),
    (.chk [] (.cb 5 [(0, (1, (.t 5))), (2, (3, (.o1 (.ldn 3) (.t 6))))])),
    (.set 20 (.o2 (.put 2 3) (.o2 (.put 0 1) (.c (.agg #[(.slice none 0 0), (.int .i64 0), (.int .i64 0), (.int .i64 0), (.int .i64 0)])) (.t 5)) (.o1 (.ldn 3) (.t 6)))),
    (.eff [] (some 21) (.box 92) [(.t 20)] []),
    (.eff [] (some 22) .callv [(.t 1), (.t 21)] [])]) (.seq (.sts [(.chk [] (.cb 3 [])),
    (.eff [] none (.store 3) [(.t 4), (.c (.agg #[(.int .i64 0), (.int .i64 0), (.int .i64 0)]))] [])]) .ret))))))
def psGuarded_E : Res := [((some (.c1 (.ldn 3) (.t 4))), (.o1 (.ldn 3) (.t 4)))]
theorem psGuarded_C : Tryd.f18.body.bind (comp Tryd.prog psGuarded_M Tryd.f18.ntmps) = some psGuarded_S := by kernel_rfl
theorem psGuarded_R : resE Tryd.prog psGuarded_M Tryd.f18.results.toList = some psGuarded_E := by kernel_rfl
theorem psGuarded_H (G : Ctr) (hG : GOk Tryd.prog G) (a0 : Value) (a1 : Value) {h : H} {K : Value → H → Prop} {KP : List PanicEntry → H → Prop} (Hw : wpS G psGuarded_S (retQ psGuarded_E (callK K KP)) (envOf 0 [a0, a1] env0) h) : HCX Tryd.prog 18 [a0, a1] h K KP :=
  .inl ⟨by kernel_rfl, hc_of mixed hG Tryd.func18 psGuarded_C psGuarded_R (of_decide_eq_true (by kernel_rfl)) Hw⟩
def psGuardedY_M : Nat → Bool := fun i => Nat.testBit 8271 i
def psGuardedY_S : S :=
  (.seq (.sts [(.eff [] (some 4) .dead [] []),
    (.set 1 (.t 4))]) (.seq (.seq (.sts [(.chk [] (.c2 (.eqn .iface false) (.t 1) (.c .nilIface))),
    (.set 6 (.o2 (.eqn .iface false) (.t 1) (.c .nilIface)))]) (.cond 6 .ret .skip)) (.seq (.sts [(.eff [] (some 9) .dead [] []),
    (.chk [] (.c1 (.ext 0) (.t 9))),
    (.chk [] (.c1 (.ext 1) (.t 9))),
    (.eff [] (some 2) (.alloc 86 #[(.int .i64 0), (.int .i64 0), (.int .i64 0)]) [] []),
    (.eff [] none (.store 3) [(.t 2), (.o1 (.ext 0) (.t 9))] []),
    (.set 3 (.o1 (.ext 1) (.t 9)))]) (.seq (.seq (.sts [(.chk [] (.c1 .not (.t 3))),
    (.set 13 (.o1 .not (.t 3)))]) (.cond 13 (.sts [(.eff [] none .pnc [(.t 1)] [])]) .skip)) (.sts [(.chk [] (.c1 (.fld 0) (.t 2))),
    (.chk [] (.c1 (.ldn 3) (.o1 (.fld 0) (.t 2)))),
    (.set 16 (.o1 (.ldn 3) (.o1 (.fld 0) (.t 2)))),
    (.eff [] none (.store 3) [(.t 0), (.t 16)] [])])))))
def psGuardedY_E : Res := []
theorem psGuardedY_C : Tryd.f35.body.bind (comp Tryd.prog psGuardedY_M Tryd.f35.ntmps) = some psGuardedY_S := by kernel_rfl
theorem psGuardedY_R : resE Tryd.prog psGuardedY_M Tryd.f35.results.toList = some psGuardedY_E := by kernel_rfl
theorem psGuardedY_H (G : Ctr) (hG : GOk Tryd.prog G) (a0 : Value) {h : H} {K : Value → H → Prop} {KP : List PanicEntry → H → Prop} (Hw : wpS G psGuardedY_S (retQ psGuardedY_E (callK K KP)) (envOf 0 [a0] env0) h) : HCX Tryd.prog 35 [a0] h K KP :=
  .inl ⟨by kernel_rfl, hc_of mixed hG Tryd.func35 psGuardedY_C psGuardedY_R (of_decide_eq_true (by kernel_rfl)) Hw⟩
def psFactsY_M : Nat → Bool := fun i => Nat.testBit 32835 i
def psFactsY_L1 : S :=
  (.seq (.seq (.sts [(.eff [] (some 4) (.call 24) [(.t 0)] []),
    (.chk [] (.c1 (.part 0) (.t 4))),
    (.chk [] (.c2 (.bin .neq) (.o1 (.part 0) (.t 4)) (.c (.int .i64 0)))),
    (.set 6 (.o2 (.bin .neq) (.o1 (.part 0) (.t 4)) (.c (.int .i64 0))))]) (.cond 6 .skip (.exit 0))) (.block 1 (.seq (.seq (.sts [(.chk [] (.c1 .ld1 (.t 1))),
    (.chk [] (.c1 .len (.o1 .ld1 (.t 1)))),
    (.chk [] (.c2 (.bin .geq) (.o1 .len (.o1 .ld1 (.t 1))) (.c (.int .i64 4096)))),
    (.set 10 (.o2 (.bin .geq) (.o1 .len (.o1 .ld1 (.t 1))) (.c (.int .i64 4096)))),
    (.eff [((.t 10), true)] (some 12) (.call 24) [(.t 0)] []),
    (.chk [((.t 10), true)] (.c1 (.part 0) (.t 12))),
    (.chk [((.t 10), true)] (.c2 (.bin .eql) (.o1 (.part 0) (.t 12)) (.c (.int .i64 1)))),
    (.chk [] (.c3 .pick (.t 10) (.o2 (.bin .eql) (.o1 (.part 0) (.t 12)) (.c (.int .i64 1))) (.c (.bool false)))),
    (.set 15 (.o3 .pick (.t 10) (.o2 (.bin .eql) (.o1 (.part 0) (.t 12)) (.c (.int .i64 1))) (.c (.bool false))))]) (.cond 15 (.sts [(.eff [] (some 17) (.call 25) [(.t 0), (.c (.int .i64 24))] [])]) .skip)) (.seq (.sts [(.chk [] (.c1 .ld1 (.t 1))),
    (.set 18 (.o1 .ld1 (.t 1))),
    (.eff [] (some 20) (.call 20) [(.t 0), (.c (.bool false))] [([], ((.t 1), none))]),
    (.eff [] (some 21) (.bsl 42 3 1 [(str []), (.slice none 0 0), (.int .i64 0)] [0]) [(.t 20)] [([], ((.t 1), none))]),
    (.eff [] (some 22) (.app 42 3 48 [(str []), (.slice none 0 0), (.int .i64 0)]) [(.t 18), (.t 21)] []),
    (.eff [] none (.store 1) [(.t 1), (.t 22)] [])]) (.sts [(.eff [] (some 24) (.call 21) [(.t 0), (.c (.int .i64 8))] [])])))))
def psFactsY_S : S :=
  (.block 0 (.loop psFactsY_L1))
def psFactsY_E : Res := []
theorem psFactsY_C : Tryd.f23.body.bind (comp Tryd.prog psFactsY_M Tryd.f23.ntmps) = some psFactsY_S := by kernel_rfl
theorem psFactsY_R : resE Tryd.prog psFactsY_M Tryd.f23.results.toList = some psFactsY_E := by kernel_rfl
theorem psFactsY_H (G : Ctr) (hG : GOk Tryd.prog G) (a0 : Value) (a1 : Value) {h : H} {K : Value → H → Prop} {KP : List PanicEntry → H → Prop} (Hw : wpS G psFactsY_S (retQ psFactsY_E (callK K KP)) (envOf 0 [a0, a1] env0) h) : HCX Tryd.prog 23 [a0, a1] h K KP :=
  .inl ⟨by kernel_rfl, hc_of mixed hG Tryd.func23 psFactsY_C psFactsY_R (of_decide_eq_true (by kernel_rfl)) Hw⟩
def psFacts_M : Nat → Bool := fun i => Nat.testBit 2109 i
def psFacts_S : S :=
  (.seq (.sts [(.set 2 (.c (.slice none 0 0))),
    (.eff [] (some 3) (.alloc 31 #[(.int .i64 0), (.int .i64 0), (.int .i64 0)]) [] [])]) (.seq (.sts [(.eff [] (some 4) (.alloc 36 #[(.slice none 0 0)]) [] [])]) (.seq (.sts [(.eff [] (some 7) (.mkf (.func 23) 0) [(.t 4)] []),
    (.eff [] (some 8) (.call 18) [(.t 0), (.t 7)] []),
    (.eff [] (some 5) (.alloc 31 #[(.int .i64 0), (.int .i64 0), (.int .i64 0)]) [] []),
    (.eff [] none (.store 3) [(.t 5), (.t 8)] [])]) (.seq (.seq (.sts [(.chk [] (.c1 (.fld 0) (.t 5))),
    (.chk [] (.c1 .ld1 (.o1 (.fld 0) (.t 5)))),
    (.chk [] (.c2 (.bin .neq) (.o1 .ld1 (.o1 (.fld 0) (.t 5))) (.c (.int .i64 0)))),
    (.set 11 (.o2 (.bin .neq) (.o1 .ld1 (.o1 (.fld 0) (.t 5))) (.c (.int .i64 0))))]) (.cond 11 (.seq (.sts [(.chk [] (.c1 (.ldn 3) (.t 5))),
    (.set 2 (.c (.slice none 0 0))),
    (.set 12 (.o1 (.ldn 3) (.t 5))),
    (.eff [] none (.store 3) [(.t 3), (.t 12)] [])]) .ret) .skip)) (.seq (.sts [(.chk [] (.c1 .ld1 (.t 4))),
    (.chk [] (.c1 (.ldn 3) (.t 5))),
    (.set 2 (.o1 .ld1 (.t 4))),
    (.set 14 (.o1 (.ldn 3) (.t 5))),
    (.eff [] none (.store 3) [(.t 3), (.t 14)] [])]) .ret)))))
def psFacts_E : Res := [(none, (.t 2)), ((some (.c1 (.ldn 3) (.t 3))), (.o1 (.ldn 3) (.t 3)))]
theorem psFacts_C : Tryd.f10.body.bind (comp Tryd.prog psFacts_M Tryd.f10.ntmps) = some psFacts_S := by kernel_rfl
theorem psFacts_R : resE Tryd.prog psFacts_M Tryd.f10.results.toList = some psFacts_E := by kernel_rfl
theorem psFacts_H (G : Ctr) (hG : GOk Tryd.prog G) (a0 : Value) {h : H} {K : Value → H → Prop} {KP : List PanicEntry → H → Prop} (Hw : wpS G psFacts_S (retQ psFacts_E (callK K KP)) (envOf 0 [a0] env0) h) : HCX Tryd.prog 10 [a0] h K KP :=
  .inl ⟨by kernel_rfl, hc_of mixed hG Tryd.func10 psFacts_C psFacts_R (of_decide_eq_true (by kernel_rfl)) Hw⟩
def psFactY_M : Nat → Bool := fun i => Nat.testBit 245803 i
def psFactY_L1 : S :=
  (.seq (.sts [(.chk [] (.c2 (.bin .lss) (.t 16) (.t 15))),
    (.set 17 (.o2 (.bin .lss) (.t 16) (.t 15)))]) (.seq (.cond 17 .skip (.exit 0)) (.seq (.block 1 (.seq (.sts [(.chk [] (.c2 (.idxA 4) (.t 14) (.t 16))),
    (.chk [] (.c1 (.ldn 4) (.o2 (.idxA 4) (.t 14) (.t 16)))),
    (.set 19 (.o1 (.ldn 4) (.o2 (.idxA 4) (.t 14) (.t 16)))),
    (.eff [] (some 5) (.alloc 67 #[(.int .i64 0), (.int .i64 0), (str []), (.int .i64 0)]) [] []),
    (.eff [] none (.store 4) [(.t 5), (.t 19)] [])]) (.sts [(.chk [] (.c1 (.fld 1) (.t 1))),
    (.chk [] (.c1 .ld1 (.o1 (.fld 1) (.t 1)))),
    (.chk [] (.c1 (.fld 0) (.t 5))),
    (.chk [] (.c1 .ld1 (.o1 (.fld 0) (.t 5)))),
    (.chk [] (.c1 (.fld 1) (.t 5))),
    (.chk [] (.c1 .ld1 (.o1 (.fld 1) (.t 5)))),
    (.chk [] (.c1 (.fld 2) (.t 5))),
    (.chk [] (.c1 .ld1 (.o1 (.fld 2) (.t 5)))),
    (.chk [] (.cb 3 [(0, (1, (.o1 .ld1 (.o1 (.fld 0) (.t 5))))), (1, (1, (.o1 .ld1 (.o1 (.fld 1) (.t 5))))), (2, (1, (.o1 .ld1 (.o1 (.fld 2) (.t 5)))))])),
    (.set 28 (.o2 (.put 2 1) (.o2 (.put 1 1) (.o2 (.put 0 1) (.c (.agg #[(.int .i64 0), (.int .i64 0), (str [])])) (.o1 .ld1 (.o1 (.fld 0) (.t 5)))) (.o1 .ld1 (.o1 (.fld 1) (.t 5)))) (.o1 .ld1 (.o1 (.fld 2) (.t 5))))),
    (.set 21 (.o1 .ld1 (.o1 (.fld 1) (.t 1)))),
    (.eff [] (some 29) (.bsl 46 3 1 [(.int .i64 0), (.int .i64 0), (str [])] [0]) [(.t 28)] []),
    (.eff [] (some 30) (.app 46 3 32 [(.int .i64 0), (.int .i64 0), (str [])]) [(.t 21), (.t 29)] []),
    (.chk [] (.c1 (.fld 1) (.t 1))),
    (.eff [] none (.store 1) [(.o1 (.fld 1) (.t 1)), (.t 30)] [])]))) (.sts [(.chk [] (.c2 (.bin .add) (.t 16) (.c (.int .i64 1)))),
    (.set 32 (.o2 (.bin .add) (.t 16) (.c (.int .i64 1)))),
    (.set 16 (.t 32))]))))
def psFactY_S : S :=
  (.seq (.sts [(.eff [] (some 7) (.call 20) [(.t 0), (.c (.bool false))] []),
    (.eff [] (some 3) (.alloc 42 #[(str []), (.slice none 0 0), (.int .i64 0)]) [] []),
    (.eff [] none (.store 3) [(.t 3), (.t 7)] [])]) (.seq (.sts [(.eff [] (some 9) (.call 21) [(.t 0), (.c (.int .i64 0))] [])]) (.seq (.sts [(.chk [] (.c1 (.fld 0) (.t 3))),
    (.chk [] (.c1 .ld1 (.o1 (.fld 0) (.t 3)))),
    (.chk [] (.c1 (.fld 0) (.t 1))),
    (.set 11 (.o1 .ld1 (.o1 (.fld 0) (.t 3)))),
    (.eff [] none (.store 1) [(.o1 (.fld 0) (.t 1)), (.t 11)] [])]) (.seq (.sts [(.chk [] (.c1 (.fld 1) (.t 3))),
    (.chk [] (.c1 .ld1 (.o1 (.fld 1) (.t 3)))),
    (.set 14 (.o1 .ld1 (.o1 (.fld 1) (.t 3)))),
    (.chk [] (.c1 .len (.t 14))),
    (.set 15 (.o1 .len (.t 14))),
    (.set 16 (.c (.int .i64 0)))]) (.block 0 (.loop psFactY_L1))))))
def psFactY_E : Res := []
theorem psFactY_C : Tryd.f19.body.bind (comp Tryd.prog psFactY_M Tryd.f19.ntmps) = some psFactY_S := by kernel_rfl
theorem psFactY_R : resE Tryd.prog psFactY_M Tryd.f19.results.toList = some psFactY_E := by kernel_rfl
theorem psFactY_H (G : Ctr) (hG : GOk Tryd.prog G) (a0 : Value) (a1 : Value) {h : H} {K : Value → H → Prop} {KP : List PanicEntry → H → Prop} (Hw : wpS G psFactY_S (retQ psFactY_E (callK K KP)) (envOf 0 [a0, a1] env0) h) : HCX Tryd.prog 19 [a0, a1] h K KP :=
  .inl ⟨by kernel_rfl, hc_of mixed hG Tryd.func19 psFactY_C psFactY_R (of_decide_eq_true (by kernel_rfl)) Hw⟩
def psFact_M : Nat → Bool := fun i => Nat.testBit 2109 i
def psFact_S : S :=
  (.seq (.sts [(.eff [] (some 2) (.alloc 28 #[(str []), (.slice none 0 0)]) [] []),
    (.eff [] (some 3) (.alloc 31 #[(.int .i64 0), (.int .i64 0), (.int .i64 0)]) [] [])]) (.seq (.sts [(.eff [] (some 4) (.alloc 28 #[(str []), (.slice none 0 0)]) [] [])]) (.seq (.sts [(.eff [] (some 7) (.mkf (.func 19) 0) [(.t 4)] []),
    (.eff [] (some 8) (.call 18) [(.t 0), (.t 7)] []),
    (.eff [] (some 5) (.alloc 31 #[(.int .i64 0), (.int .i64 0), (.int .i64 0)]) [] []),
    (.eff [] none (.store 3) [(.t 5), (.t 8)] [])]) (.seq (.seq (.sts [(.chk [] (.c1 (.fld 0) (.t 5))),
    (.chk [] (.c1 .ld1 (.o1 (.fld 0) (.t 5)))),
    (.chk [] (.c2 (.bin .neq) (.o1 .ld1 (.o1 (.fld 0) (.t 5))) (.c (.int .i64 0)))),
    (.set 11 (.o2 (.bin .neq) (.o1 .ld1 (.o1 (.fld 0) (.t 5))) (.c (.int .i64 0))))]) (.cond 11 (.seq (.sts [(.chk [] (.cb 2 [])),
    (.chk [] (.c1 (.ldn 3) (.t 5))),
    (.set 13 (.o1 (.ldn 3) (.t 5))),
    (.eff [] none (.store 2) [(.t 2), (.c (.agg #[(str []), (.slice none 0 0)]))] [([], ((.t 5), (some 3)))]),
    (.eff [] none (.store 3) [(.t 3), (.t 13)] [])]) .ret) .skip)) (.seq (.sts [(.chk [] (.c1 (.ldn 2) (.t 4))),
    (.chk [] (.c1 (.ldn 3) (.t 5))),
    (.set 15 (.o1 (.ldn 3) (.t 5))),
    (.set 14 (.o1 (.ldn 2) (.t 4))),
    (.eff [] none (.store 2) [(.t 2), (.t 14)] [([], ((.t 5), (some 3)))]),
    (.eff [] none (.store 3) [(.t 3), (.t 15)] [])]) .ret)))))
def psFact_E : Res := [((some (.c1 (.ldn 2) (.t 2))), (.o1 (.ldn 2) (.t 2))), ((some (.c1 (.ldn 3) (.t 3))), (.o1 (.ldn 3) (.t 3)))]
theorem psFact_C : Tryd.f7.body.bind (comp Tryd.prog psFact_M Tryd.f7.ntmps) = some psFact_S := by kernel_rfl
theorem psFact_R : resE Tryd.prog psFact_M Tryd.f7.results.toList = some psFact_E := by kernel_rfl
theorem psFact_H (G : Ctr) (hG : GOk Tryd.prog G) (a0 : Value) {h : H} {K : Value → H → Prop} {KP : List PanicEntry → H → Prop} (Hw : wpS G psFact_S (retQ psFact_E (callK K KP)) (envOf 0 [a0] env0) h) : HCX Tryd.prog 7 [a0] h K KP :=
  .inl ⟨by kernel_rfl, hc_of mixed hG Tryd.func7 psFact_C psFact_R (of_decide_eq_true (by kernel_rfl)) Hw⟩
end Go.Proofs.YteiopegaiohglaaDoor
