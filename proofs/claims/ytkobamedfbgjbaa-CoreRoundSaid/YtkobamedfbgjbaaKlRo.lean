/- The small statements of functions of the program, as the closed computation gives them (written by a program of ours; checked by the kernel below). -/
import Derived.Test.YtkobamedfbgjbaaEvB
import Derived.Test.YtkobamedfbgjbaaProg
import Derived.KernelRfl
import Derived.Test.YtkobamedfbgjbaaKcS
namespace Go.Proofs.Ytkobamedfbgjbaa
open Go Go.Ev
def klBare_M : Nat → Bool := fun i => Nat.testBit 7 i
def klBare_S : S :=
 (.seq (.sts [(.eff [] (some 1) (.box 94) [(.t 0)] []),
 (.eff [] (some 2) (.alloc 94 #[(.int .i64 0), (.int .i64 0), (str []), (.int .i64 0)]) [] [])]) (.seq (.sts [(.chk [] (.c1 (.fld 3) (.t 1))),
 (.eff [] none (.store 1) [(.o1 (.fld 3) (.t 1)), (.c (.int .i64 0))] [])]) (.seq (.sts [(.chk [] (.c1 (.ldn 4) (.t 1))),
 (.set 4 (.o1 (.ldn 4) (.t 1))),
 (.eff [] none (.store 4) [(.t 2), (.t 4)] [])]) .ret)))
def klBare_E : Res := [((some (.c1 (.ldn 4) (.t 2))), (.o1 (.ldn 4) (.t 2)))]
theorem klBare_C : Try.f43.body.bind (comp Try.prog klBare_M Try.f43.ntmps) = some klBare_S := by kernel_rfl
theorem klBare_R : resE Try.prog klBare_M Try.f43.results.toList = some klBare_E := by kernel_rfl
theorem klBare_H (G : Ctr) (hG : GOk Try.prog G) (a0 : Value) {h : H} {K : Value → H → Prop} {KP : List PanicEntry → H → Prop} (Hw : wpS G klBare_S (retQ klBare_E (callK K KP)) (envOf 0 [a0] env0) h) : HCX Try.prog 43 [a0] h K KP :=
  .inl ⟨by kernel_rfl, hc_of mixed hG Try.func43 klBare_C klBare_R (of_decide_eq_true (by kernel_rfl)) Hw⟩
def klBareAtom_M : Nat → Bool := fun i => Nat.testBit 4127 i
def klBareAtom_L1 : S :=
 (.seq (.seq (.sts [(.chk [] (.c1 (.fld 1) (.t 1))),
 (.chk [] (.c1 .ld1 (.o1 (.fld 1) (.t 1)))),
 (.chk [] (.c1 .len (.o1 .ld1 (.o1 (.fld 1) (.t 1))))),
 (.chk [] (.c2 (.bin .lss) (.t 4) (.o1 .len (.o1 .ld1 (.o1 (.fld 1) (.t 1)))))),
 (.set 12 (.o2 (.bin .lss) (.t 4) (.o1 .len (.o1 .ld1 (.o1 (.fld 1) (.t 1))))))]) (.cond 12 .skip (.exit 0))) (.seq (.block 1 (.sts [(.chk [] (.c1 (.fld 1) (.t 3))),
 (.chk [] (.c1 .ld1 (.o1 (.fld 1) (.t 3)))),
 (.chk [] (.c1 (.fld 1) (.t 1))),
 (.chk [] (.c1 .ld1 (.o1 (.fld 1) (.t 1)))),
 (.chk [] (.c2 (.idxA 4) (.o1 .ld1 (.o1 (.fld 1) (.t 1))) (.t 4))),
 (.chk [] (.c1 (.ldn 4) (.o2 (.idxA 4) (.o1 .ld1 (.o1 (.fld 1) (.t 1))) (.t 4)))),
 (.set 21 (.o1 (.ldn 4) (.o2 (.idxA 4) (.o1 .ld1 (.o1 (.fld 1) (.t 1))) (.t 4)))),
 (.set 20 (.o2 (.idxA 4) (.o1 .ld1 (.o1 (.fld 1) (.t 1))) (.t 4))),
 (.set 16 (.o1 .ld1 (.o1 (.fld 1) (.t 3)))),
 (.eff [] (some 22) (.call 43) [(.t 21)] [([], ((.o1 (.fld 1) (.t 3)), none))]),
 (.eff [] (some 23) (.bsl 94 4 1 [(.int .i64 0), (.int .i64 0), (str []), (.int .i64 0)] [0]) [(.t 22)] [([], ((.o1 (.fld 1) (.t 3)), none))]),
 (.eff [] (some 24) (.app 94 4 40 [(.int .i64 0), (.int .i64 0), (str []), (.int .i64 0)]) [(.t 16), (.t 23)] []),
 (.chk [] (.c1 (.fld 1) (.t 3))),
 (.eff [] none (.store 1) [(.o1 (.fld 1) (.t 3)), (.t 24)] [])])) (.sts [(.chk [] (.c2 (.bin .add) (.t 4) (.c (.int .i64 1)))),
 (.set 14 (.o2 (.bin .add) (.t 4) (.c (.int .i64 1)))),
 (.set 4 (.t 14))])))
def klBareAtom_S : S :=
 (.seq (.sts [(.eff [] (some 1) (.box 45) [(.t 0)] []),
 (.eff [] (some 2) (.alloc 45 #[(str []), (.slice none 0 0), (.int .i64 0)]) [] [])]) (.seq (.sts [(.chk [] (.c1 (.fld 0) (.t 1))),
 (.chk [] (.c1 .ld1 (.o1 (.fld 0) (.t 1)))),
 (.chk [] (.cb 3 [(0, (1, (.o1 .ld1 (.o1 (.fld 0) (.t 1)))))])),
 (.set 7 (.o2 (.put 0 1) (.c (.agg #[(str []), (.slice none 0 0), (.int .i64 0)])) (.o1 .ld1 (.o1 (.fld 0) (.t 1))))),
 (.eff [] (some 3) (.alloc 45 #[(str []), (.slice none 0 0), (.int .i64 0)]) [] []),
 (.eff [] none (.store 3) [(.t 3), (.t 7)] [])]) (.seq (.seq (.sts [(.set 4 (.c (.int .i64 0)))]) (.block 0 (.loop klBareAtom_L1))) (.seq (.sts [(.chk [] (.c1 (.ldn 3) (.t 3))),
 (.set 26 (.o1 (.ldn 3) (.t 3))),
 (.eff [] none (.store 3) [(.t 2), (.t 26)] [])]) .ret))))
def klBareAtom_E : Res := [((some (.c1 (.ldn 3) (.t 2))), (.o1 (.ldn 3) (.t 2)))]
theorem klBareAtom_C : Try.f42.body.bind (comp Try.prog klBareAtom_M Try.f42.ntmps) = some klBareAtom_S := by kernel_rfl
theorem klBareAtom_R : resE Try.prog klBareAtom_M Try.f42.results.toList = some klBareAtom_E := by kernel_rfl
theorem klBareAtom_H (G : Ctr) (hG : GOk Try.prog G) (a0 : Value) {h : H} {K : Value → H → Prop} {KP : List PanicEntry → H → Prop} (Hw : wpS G klBareAtom_S (retQ klBareAtom_E (callK K KP)) (envOf 0 [a0] env0) h) : HCX Try.prog 42 [a0] h K KP :=
  .inl ⟨by kernel_rfl, hc_of mixed hG Try.func42 klBareAtom_C klBareAtom_R (of_decide_eq_true (by kernel_rfl)) Hw⟩
def klChained_M : Nat → Bool := fun i => Nat.testBit 2148561135 i
def klChained_L2 : S :=
 (.seq (.seq (.sts [(.chk [] (.c1 (.fld 3) (.t 1))),
 (.chk [] (.c1 .ld1 (.o1 (.fld 3) (.t 1)))),
 (.chk [] (.c1 .len (.o1 .ld1 (.o1 (.fld 3) (.t 1))))),
 (.chk [] (.c2 (.bin .lss) (.t 6) (.o1 .len (.o1 .ld1 (.o1 (.fld 3) (.t 1)))))),
 (.set 20 (.o2 (.bin .lss) (.t 6) (.o1 .len (.o1 .ld1 (.o1 (.fld 3) (.t 1))))))]) (.cond 20 .skip (.exit 2))) (.seq (.block 3 (.seq (.sts [(.chk [] (.c1 (.fld 3) (.t 1))),
 (.chk [] (.c1 .ld1 (.o1 (.fld 3) (.t 1)))),
 (.chk [] (.c2 (.idxA 14) (.o1 .ld1 (.o1 (.fld 3) (.t 1))) (.t 6))),
 (.chk [] (.c1 (.ldn 14) (.o2 (.idxA 14) (.o1 .ld1 (.o1 (.fld 3) (.t 1))) (.t 6)))),
 (.set 27 (.o1 (.ldn 14) (.o2 (.idxA 14) (.o1 .ld1 (.o1 (.fld 3) (.t 1))) (.t 6)))),
 (.eff [] (some 7) (.alloc 109 #[(.int .i64 0), (str []), (.slice none 0 0), (.int .i64 0), (.int .i64 0), (.int .i64 0), (.int .i64 0), (str []), (.int .i64 0), (.int .i64 0), (.int .i64 0), (str []), (.int .i64 0), (.int .i64 0)]) [] []),
 (.eff [] none (.store 14) [(.t 7), (.t 27)] [])]) (.seq (.sts [(.chk [] (.c1 (.fld 0) (.t 7))),
 (.chk [] (.c1 .ld1 (.o1 (.fld 0) (.t 7)))),
 (.chk [] (.c2 (.bin .eql) (.o1 .ld1 (.o1 (.fld 0) (.t 7))) (.t 5))),
 (.set 31 (.o2 (.bin .eql) (.o1 .ld1 (.o1 (.fld 0) (.t 7))) (.t 5)))]) (.cond 31 (.sts [(.chk [] (.c1 (.fld 3) (.t 3))),
 (.chk [] (.c1 .ld1 (.o1 (.fld 3) (.t 3)))),
 (.chk [] (.c1 (.fld 1) (.t 7))),
 (.chk [] (.c1 (.ldn 3) (.o1 (.fld 1) (.t 7)))),
 (.chk [] (.c1 (.fld 4) (.t 7))),
 (.chk [] (.c1 .ld1 (.o1 (.fld 4) (.t 7)))),
 (.chk [] (.c1 (.fld 5) (.t 7))),
 (.chk [] (.c1 (.ldn 4) (.o1 (.fld 5) (.t 7)))),
 (.chk [] (.c1 (.fld 9) (.t 7))),
 (.chk [] (.c1 (.ldn 4) (.o1 (.fld 9) (.t 7)))),
 (.set 44 (.o1 (.ldn 4) (.o1 (.fld 9) (.t 7)))),
 (.set 41 (.o1 (.ldn 4) (.o1 (.fld 5) (.t 7)))),
 (.set 39 (.o1 .ld1 (.o1 (.fld 4) (.t 7)))),
 (.set 36 (.o1 (.ldn 3) (.o1 (.fld 1) (.t 7)))),
 (.set 33 (.o1 .ld1 (.o1 (.fld 3) (.t 3)))),
 (.eff [] (some 37) (.call 42) [(.t 36)] [([], ((.o1 (.fld 9) (.t 7)), (some 4))), ([], ((.o1 (.fld 5) (.t 7)), (some 4))), ([], ((.o1 (.fld 4) (.t 7)), none)), ([], ((.o1 (.fld 3) (.t 3)), none))]),
 (.eff [] (some 42) (.call 43) [(.t 41)] [([], ((.o1 (.fld 9) (.t 7)), (some 4))), ([], ((.o1 (.fld 4) (.t 7)), none)), ([], ((.o1 (.fld 3) (.t 3)), none))]),
 (.eff [] (some 45) (.call 43) [(.t 44)] [([], ((.o1 (.fld 4) (.t 7)), none)), ([], ((.o1 (.fld 3) (.t 3)), none))]),
 (.chk [] (.cb 14 [(0, (1, (.t 5))), (1, (3, (.t 37))), (4, (1, (.t 39))), (5, (4, (.t 42))), (9, (4, (.t 45)))])),
 (.eff [] (some 47) (.bsl 109 14 1 [(.int .i64 0), (str []), (.slice none 0 0), (.int .i64 0), (.int .i64 0), (.int .i64 0), (.int .i64 0), (str []), (.int .i64 0), (.int .i64 0), (.int .i64 0), (str []), (.int .i64 0), (.int .i64 0)] [0]) [(.o2 (.put 9 4) (.o2 (.put 5 4) (.o2 (.put 4 1) (.o2 (.put 1 3) (.o2 (.put 0 1) (.c (.agg #[(.int .i64 0), (str []), (.slice none 0 0), (.int .i64 0), (.int .i64 0), (.int .i64 0), (.int .i64 0), (str []), (.int .i64 0), (.int .i64 0), (.int .i64 0), (str []), (.int .i64 0), (.int .i64 0)])) (.t 5)) (.t 37)) (.t 39)) (.t 42)) (.t 45))] [([], ((.o1 (.fld 3) (.t 3)), none))]),
 (.eff [] (some 48) (.app 109 14 152 [(.int .i64 0), (str []), (.slice none 0 0), (.int .i64 0), (.int .i64 0), (.int .i64 0), (.int .i64 0), (str []), (.int .i64 0), (.int .i64 0), (.int .i64 0), (str []), (.int .i64 0), (.int .i64 0)]) [(.t 33), (.t 47)] []),
 (.chk [] (.c1 (.fld 3) (.t 3))),
 (.eff [] none (.store 1) [(.o1 (.fld 3) (.t 3)), (.t 48)] [])]) .skip)))) (.sts [(.chk [] (.c2 (.bin .add) (.t 6) (.c (.int .i64 1)))),
 (.set 22 (.o2 (.bin .add) (.t 6) (.c (.int .i64 1)))),
 (.set 6 (.t 22))])))
def klChained_L1 : S :=
 (.seq (.sts [(.chk [] (.c2 (.bin .lss) (.t 13) (.c (.int .i64 3)))),
 (.set 14 (.o2 (.bin .lss) (.t 13) (.c (.int .i64 3))))]) (.seq (.cond 14 .skip (.exit 0)) (.seq (.block 1 (.seq (.sts [(.chk [] (.c2 (.idxR 3 1 false) (.t 12) (.t 13))),
 (.set 5 (.o2 (.idxR 3 1 false) (.t 12) (.t 13)))]) (.seq (.sts [(.set 6 (.c (.int .i64 0)))]) (.block 2 (.loop klChained_L2))))) (.sts [(.chk [] (.c2 (.bin .add) (.t 13) (.c (.int .i64 1)))),
 (.set 50 (.o2 (.bin .add) (.t 13) (.c (.int .i64 1)))),
 (.set 13 (.t 50))]))))
def klChained_S : S :=
 (.seq (.sts [(.eff [] (some 1) (.box 48) [(.t 0)] []),
 (.eff [] (some 2) (.alloc 48 #[(str []), (.slice none 0 0), (.int .i64 0), (.slice none 0 0)]) [] [])]) (.seq (.sts [(.chk [] (.c1 (.fld 0) (.t 1))),
 (.chk [] (.c1 (.ldn 3) (.o1 (.fld 0) (.t 1)))),
 (.set 9 (.o1 (.ldn 3) (.o1 (.fld 0) (.t 1)))),
 (.eff [] (some 10) (.call 42) [(.t 9)] []),
 (.chk [] (.cb 4 [(0, (3, (.t 10)))])),
 (.eff [] (some 3) (.alloc 48 #[(str []), (.slice none 0 0), (.int .i64 0), (.slice none 0 0)]) [] []),
 (.eff [] none (.store 4) [(.t 3), (.o2 (.put 0 3) (.c (.agg #[(str []), (.slice none 0 0), (.int .i64 0), (.slice none 0 0)])) (.t 10))] [])]) (.seq (.seq (.sts [(.chk [] (.cb 3 [(0, (1, (.c (.int .i64 1)))), (1, (1, (.c (.int .i64 3)))), (2, (1, (.c (.int .i64 2))))])),
 (.set 12 (.o2 (.put 2 1) (.o2 (.put 1 1) (.o2 (.put 0 1) (.c (.agg #[(.int .i64 0), (.int .i64 0), (.int .i64 0)])) (.c (.int .i64 1))) (.c (.int .i64 3))) (.c (.int .i64 2)))),
 (.set 13 (.c (.int .i64 0)))]) (.block 0 (.loop klChained_L1))) (.seq (.sts [(.chk [] (.c1 (.ldn 4) (.t 3))),
 (.set 51 (.o1 (.ldn 4) (.t 3))),
 (.eff [] none (.store 4) [(.t 2), (.t 51)] [])]) .ret))))
def klChained_E : Res := [((some (.c1 (.ldn 4) (.t 2))), (.o1 (.ldn 4) (.t 2)))]
theorem klChained_C : Try.f19.body.bind (comp Try.prog klChained_M Try.f19.ntmps) = some klChained_S := by kernel_rfl
theorem klChained_R : resE Try.prog klChained_M Try.f19.results.toList = some klChained_E := by kernel_rfl
theorem klChained_H (G : Ctr) (hG : GOk Try.prog G) (a0 : Value) {h : H} {K : Value → H → Prop} {KP : List PanicEntry → H → Prop} (Hw : wpS G klChained_S (retQ klChained_E (callK K KP)) (envOf 0 [a0] env0) h) : HCX Try.prog 19 [a0] h K KP :=
  .inl ⟨by kernel_rfl, hc_of mixed hG Try.func19 klChained_C klChained_R (of_decide_eq_true (by kernel_rfl)) Hw⟩
def klFact_M : Nat → Bool := fun i => Nat.testBit 4127 i
def klFact_L1 : S :=
 (.seq (.seq (.sts [(.chk [] (.c1 (.fld 1) (.t 1))),
 (.chk [] (.c1 .ld1 (.o1 (.fld 1) (.t 1)))),
 (.chk [] (.c1 .len (.o1 .ld1 (.o1 (.fld 1) (.t 1))))),
 (.chk [] (.c2 (.bin .lss) (.t 4) (.o1 .len (.o1 .ld1 (.o1 (.fld 1) (.t 1)))))),
 (.set 12 (.o2 (.bin .lss) (.t 4) (.o1 .len (.o1 .ld1 (.o1 (.fld 1) (.t 1))))))]) (.cond 12 .skip (.exit 0))) (.seq (.block 1 (.sts [(.chk [] (.c1 (.fld 1) (.t 3))),
 (.chk [] (.c1 .ld1 (.o1 (.fld 1) (.t 3)))),
 (.chk [] (.c1 (.fld 1) (.t 1))),
 (.chk [] (.c1 .ld1 (.o1 (.fld 1) (.t 1)))),
 (.chk [] (.c2 (.idxA 4) (.o1 .ld1 (.o1 (.fld 1) (.t 1))) (.t 4))),
 (.chk [] (.c1 (.fld 0) (.o2 (.idxA 4) (.o1 .ld1 (.o1 (.fld 1) (.t 1))) (.t 4)))),
 (.chk [] (.c1 .ld1 (.o1 (.fld 0) (.o2 (.idxA 4) (.o1 .ld1 (.o1 (.fld 1) (.t 1))) (.t 4))))),
 (.chk [] (.c1 (.fld 1) (.t 1))),
 (.chk [] (.c1 .ld1 (.o1 (.fld 1) (.t 1)))),
 (.chk [] (.c2 (.idxA 4) (.o1 .ld1 (.o1 (.fld 1) (.t 1))) (.t 4))),
 (.chk [] (.c1 (.fld 1) (.o2 (.idxA 4) (.o1 .ld1 (.o1 (.fld 1) (.t 1))) (.t 4)))),
 (.chk [] (.c1 .ld1 (.o1 (.fld 1) (.o2 (.idxA 4) (.o1 .ld1 (.o1 (.fld 1) (.t 1))) (.t 4))))),
 (.chk [] (.c1 (.fld 1) (.t 1))),
 (.chk [] (.c1 .ld1 (.o1 (.fld 1) (.t 1)))),
 (.chk [] (.c2 (.idxA 4) (.o1 .ld1 (.o1 (.fld 1) (.t 1))) (.t 4))),
 (.chk [] (.c1 (.fld 2) (.o2 (.idxA 4) (.o1 .ld1 (.o1 (.fld 1) (.t 1))) (.t 4)))),
 (.chk [] (.c1 .ld1 (.o1 (.fld 2) (.o2 (.idxA 4) (.o1 .ld1 (.o1 (.fld 1) (.t 1))) (.t 4))))),
 (.chk [] (.cb 3 [(0, (1, (.o1 .ld1 (.o1 (.fld 0) (.o2 (.idxA 4) (.o1 .ld1 (.o1 (.fld 1) (.t 1))) (.t 4)))))), (1, (1, (.o1 .ld1 (.o1 (.fld 1) (.o2 (.idxA 4) (.o1 .ld1 (.o1 (.fld 1) (.t 1))) (.t 4)))))), (2, (1, (.o1 .ld1 (.o1 (.fld 2) (.o2 (.idxA 4) (.o1 .ld1 (.o1 (.fld 1) (.t 1))) (.t 4))))))])),
 (.set 35 (.o2 (.put 2 1) (.o2 (.put 1 1) (.o2 (.put 0 1) (.c (.agg #[(.int .i64 0), (.int .i64 0), (str [])])) (.o1 .ld1 (.o1 (.fld 0) (.o2 (.idxA 4) (.o1 .ld1 (.o1 (.fld 1) (.t 1))) (.t 4))))) (.o1 .ld1 (.o1 (.fld 1) (.o2 (.idxA 4) (.o1 .ld1 (.o1 (.fld 1) (.t 1))) (.t 4))))) (.o1 .ld1 (.o1 (.fld 2) (.o2 (.idxA 4) (.o1 .ld1 (.o1 (.fld 1) (.t 1))) (.t 4)))))),
 (.set 33 (.o1 (.fld 2) (.o2 (.idxA 4) (.o1 .ld1 (.o1 (.fld 1) (.t 1))) (.t 4)))),
 (.set 27 (.o1 (.fld 1) (.o2 (.idxA 4) (.o1 .ld1 (.o1 (.fld 1) (.t 1))) (.t 4)))),
 (.set 21 (.o1 (.fld 0) (.o2 (.idxA 4) (.o1 .ld1 (.o1 (.fld 1) (.t 1))) (.t 4)))),
 (.set 16 (.o1 .ld1 (.o1 (.fld 1) (.t 3)))),
 (.eff [] (some 36) (.bsl 131 3 1 [(.int .i64 0), (.int .i64 0), (str [])] [0]) [(.t 35)] [([], ((.o1 (.fld 1) (.t 3)), none))]),
 (.eff [] (some 37) (.app 131 3 32 [(.int .i64 0), (.int .i64 0), (str [])]) [(.t 16), (.t 36)] []),
 (.chk [] (.c1 (.fld 1) (.t 3))),
 (.eff [] none (.store 1) [(.o1 (.fld 1) (.t 3)), (.t 37)] [])])) (.sts [(.chk [] (.c2 (.bin .add) (.t 4) (.c (.int .i64 1)))),
 (.set 14 (.o2 (.bin .add) (.t 4) (.c (.int .i64 1)))),
 (.set 4 (.t 14))])))
def klFact_S : S :=
 (.seq (.sts [(.eff [] (some 1) (.box 45) [(.t 0)] []),
 (.eff [] (some 2) (.alloc 75 #[(str []), (.slice none 0 0)]) [] [])]) (.seq (.sts [(.chk [] (.c1 (.fld 0) (.t 1))),
 (.chk [] (.c1 .ld1 (.o1 (.fld 0) (.t 1)))),
 (.chk [] (.cb 2 [(0, (1, (.o1 .ld1 (.o1 (.fld 0) (.t 1)))))])),
 (.set 7 (.o2 (.put 0 1) (.c (.agg #[(str []), (.slice none 0 0)])) (.o1 .ld1 (.o1 (.fld 0) (.t 1))))),
 (.eff [] (some 3) (.alloc 75 #[(str []), (.slice none 0 0)]) [] []),
 (.eff [] none (.store 2) [(.t 3), (.t 7)] [])]) (.seq (.seq (.sts [(.set 4 (.c (.int .i64 0)))]) (.block 0 (.loop klFact_L1))) (.seq (.sts [(.chk [] (.c1 (.ldn 2) (.t 3))),
 (.set 39 (.o1 (.ldn 2) (.t 3))),
 (.eff [] none (.store 2) [(.t 2), (.t 39)] [])]) .ret))))
def klFact_E : Res := [((some (.c1 (.ldn 2) (.t 2))), (.o1 (.ldn 2) (.t 2)))]
theorem klFact_C : Try.f44.body.bind (comp Try.prog klFact_M Try.f44.ntmps) = some klFact_S := by kernel_rfl
theorem klFact_R : resE Try.prog klFact_M Try.f44.results.toList = some klFact_E := by kernel_rfl
theorem klFact_H (G : Ctr) (hG : GOk Try.prog G) (a0 : Value) {h : H} {K : Value → H → Prop} {KP : List PanicEntry → H → Prop} (Hw : wpS G klFact_S (retQ klFact_E (callK K KP)) (envOf 0 [a0] env0) h) : HCX Try.prog 44 [a0] h K KP :=
  .inl ⟨by kernel_rfl, hc_of mixed hG Try.func44 klFact_C klFact_R (of_decide_eq_true (by kernel_rfl)) Hw⟩
def klSameFact_M : Nat → Bool := fun i => Nat.testBit 137456255039 i
def klSameFact_L1 : S :=
 (.seq (.seq (.sts [(.chk [] (.c1 (.fld 1) (.t 2))),
 (.chk [] (.c1 .ld1 (.o1 (.fld 1) (.t 2)))),
 (.chk [] (.c1 .len (.o1 .ld1 (.o1 (.fld 1) (.t 2))))),
 (.chk [] (.c2 (.bin .lss) (.t 5) (.o1 .len (.o1 .ld1 (.o1 (.fld 1) (.t 2)))))),
 (.set 24 (.o2 (.bin .lss) (.t 5) (.o1 .len (.o1 .ld1 (.o1 (.fld 1) (.t 2))))))]) (.cond 24 .skip (.exit 0))) (.seq (.block 1 (.seq (.sts [(.chk [] (.c1 (.fld 1) (.t 2))),
 (.chk [] (.c1 .ld1 (.o1 (.fld 1) (.t 2)))),
 (.chk [] (.c2 (.idxA 3) (.o1 .ld1 (.o1 (.fld 1) (.t 2))) (.t 5))),
 (.chk [] (.c1 (.ldn 3) (.o2 (.idxA 3) (.o1 .ld1 (.o1 (.fld 1) (.t 2))) (.t 5)))),
 (.chk [] (.c1 (.fld 1) (.t 3))),
 (.chk [] (.c1 .ld1 (.o1 (.fld 1) (.t 3)))),
 (.chk [] (.c2 (.idxA 3) (.o1 .ld1 (.o1 (.fld 1) (.t 3))) (.t 5))),
 (.chk [] (.c1 (.ldn 3) (.o2 (.idxA 3) (.o1 .ld1 (.o1 (.fld 1) (.t 3))) (.t 5)))),
 (.chk [] (.c2 (.eqs true [(.int .i64), (.int .i64), .str]) (.o1 (.ldn 3) (.o2 (.idxA 3) (.o1 .ld1 (.o1 (.fld 1) (.t 2))) (.t 5))) (.o1 (.ldn 3) (.o2 (.idxA 3) (.o1 .ld1 (.o1 (.fld 1) (.t 3))) (.t 5))))),
 (.set 37 (.o2 (.eqs true [(.int .i64), (.int .i64), .str]) (.o1 (.ldn 3) (.o2 (.idxA 3) (.o1 .ld1 (.o1 (.fld 1) (.t 2))) (.t 5))) (.o1 (.ldn 3) (.o2 (.idxA 3) (.o1 .ld1 (.o1 (.fld 1) (.t 3))) (.t 5)))))]) (.cond 37 (.seq (.sts [(.set 4 (.c (.bool false)))]) .ret) .skip))) (.sts [(.chk [] (.c2 (.bin .add) (.t 5) (.c (.int .i64 1)))),
 (.set 26 (.o2 (.bin .add) (.t 5) (.c (.int .i64 1)))),
 (.set 5 (.t 26))])))
def klSameFact_S : S :=
 (.seq (.sts [(.eff [] (some 2) (.box 75) [(.t 0)] []),
 (.eff [] (some 3) (.box 75) [(.t 1)] []),
 (.set 4 (.c (.bool false)))]) (.seq (.seq (.sts [(.chk [] (.c1 (.fld 0) (.t 2))),
 (.chk [] (.c1 .ld1 (.o1 (.fld 0) (.t 2)))),
 (.chk [] (.c1 (.fld 0) (.t 3))),
 (.chk [] (.c1 .ld1 (.o1 (.fld 0) (.t 3)))),
 (.chk [] (.c2 (.bin .neq) (.o1 .ld1 (.o1 (.fld 0) (.t 2))) (.o1 .ld1 (.o1 (.fld 0) (.t 3))))),
 (.chk [((.o2 (.bin .neq) (.o1 .ld1 (.o1 (.fld 0) (.t 2))) (.o1 .ld1 (.o1 (.fld 0) (.t 3)))), false)] (.c1 (.fld 1) (.t 2))),
 (.chk [((.o2 (.bin .neq) (.o1 .ld1 (.o1 (.fld 0) (.t 2))) (.o1 .ld1 (.o1 (.fld 0) (.t 3)))), false)] (.c1 .ld1 (.o1 (.fld 1) (.t 2)))),
 (.chk [((.o2 (.bin .neq) (.o1 .ld1 (.o1 (.fld 0) (.t 2))) (.o1 .ld1 (.o1 (.fld 0) (.t 3)))), false)] (.c1 .len (.o1 .ld1 (.o1 (.fld 1) (.t 2))))),
 (.chk [((.o2 (.bin .neq) (.o1 .ld1 (.o1 (.fld 0) (.t 2))) (.o1 .ld1 (.o1 (.fld 0) (.t 3)))), false)] (.c1 (.fld 1) (.t 3))),
 (.chk [((.o2 (.bin .neq) (.o1 .ld1 (.o1 (.fld 0) (.t 2))) (.o1 .ld1 (.o1 (.fld 0) (.t 3)))), false)] (.c1 .ld1 (.o1 (.fld 1) (.t 3)))),
 (.chk [((.o2 (.bin .neq) (.o1 .ld1 (.o1 (.fld 0) (.t 2))) (.o1 .ld1 (.o1 (.fld 0) (.t 3)))), false)] (.c1 .len (.o1 .ld1 (.o1 (.fld 1) (.t 3))))),
 (.chk [((.o2 (.bin .neq) (.o1 .ld1 (.o1 (.fld 0) (.t 2))) (.o1 .ld1 (.o1 (.fld 0) (.t 3)))), false)] (.c2 (.bin .neq) (.o1 .len (.o1 .ld1 (.o1 (.fld 1) (.t 2)))) (.o1 .len (.o1 .ld1 (.o1 (.fld 1) (.t 3)))))),
 (.chk [] (.c3 .pick (.o2 (.bin .neq) (.o1 .ld1 (.o1 (.fld 0) (.t 2))) (.o1 .ld1 (.o1 (.fld 0) (.t 3)))) (.c (.bool true)) (.o2 (.bin .neq) (.o1 .len (.o1 .ld1 (.o1 (.fld 1) (.t 2)))) (.o1 .len (.o1 .ld1 (.o1 (.fld 1) (.t 3))))))),
 (.set 19 (.o3 .pick (.o2 (.bin .neq) (.o1 .ld1 (.o1 (.fld 0) (.t 2))) (.o1 .ld1 (.o1 (.fld 0) (.t 3)))) (.c (.bool true)) (.o2 (.bin .neq) (.o1 .len (.o1 .ld1 (.o1 (.fld 1) (.t 2)))) (.o1 .len (.o1 .ld1 (.o1 (.fld 1) (.t 3)))))))]) (.cond 19 (.seq (.sts [(.set 4 (.c (.bool false)))]) .ret) .skip)) (.seq (.seq (.sts [(.set 5 (.c (.int .i64 0)))]) (.block 0 (.loop klSameFact_L1))) (.seq (.sts [(.set 4 (.c (.bool true)))]) .ret))))
def klSameFact_E : Res := [(none, (.t 4))]
theorem klSameFact_C : Try.f22.body.bind (comp Try.prog klSameFact_M Try.f22.ntmps) = some klSameFact_S := by kernel_rfl
theorem klSameFact_R : resE Try.prog klSameFact_M Try.f22.results.toList = some klSameFact_E := by kernel_rfl
theorem klSameFact_H (G : Ctr) (hG : GOk Try.prog G) (a0 : Value) (a1 : Value) {h : H} {K : Value → H → Prop} {KP : List PanicEntry → H → Prop} (Hw : wpS G klSameFact_S (retQ klSameFact_E (callK K KP)) (envOf 0 [a0, a1] env0) h) : HCX Try.prog 22 [a0, a1] h K KP :=
  .inl ⟨by kernel_rfl, hc_of mixed hG Try.func22 klSameFact_C klSameFact_R (of_decide_eq_true (by kernel_rfl)) Hw⟩
def klInitial_M : Nat → Bool := fun i => Nat.testBit 147718072175865958391 i
def klInitial_L1 : S :=
 (.seq (.seq (.sts [(.chk [] (.c1 (.fld 0) (.t 2))),
 (.chk [] (.c1 .ld1 (.o1 (.fld 0) (.t 2)))),
 (.chk [] (.c1 .len (.o1 .ld1 (.o1 (.fld 0) (.t 2))))),
 (.chk [] (.c2 (.bin .lss) (.t 6) (.o1 .len (.o1 .ld1 (.o1 (.fld 0) (.t 2)))))),
 (.set 16 (.o2 (.bin .lss) (.t 6) (.o1 .len (.o1 .ld1 (.o1 (.fld 0) (.t 2))))))]) (.cond 16 .skip (.exit 0))) (.seq (.block 1 (.seq (.sts [(.chk [] (.c1 (.fld 0) (.t 2))),
 (.chk [] (.c1 .ld1 (.o1 (.fld 0) (.t 2)))),
 (.chk [] (.c2 (.idxA 4) (.o1 .ld1 (.o1 (.fld 0) (.t 2))) (.t 6))),
 (.chk [] (.c1 (.fld 3) (.o2 (.idxA 4) (.o1 .ld1 (.o1 (.fld 0) (.t 2))) (.t 6)))),
 (.chk [] (.c1 .ld1 (.o1 (.fld 3) (.o2 (.idxA 4) (.o1 .ld1 (.o1 (.fld 0) (.t 2))) (.t 6))))),
 (.chk [] (.c1 .len (.o1 .ld1 (.o1 (.fld 3) (.o2 (.idxA 4) (.o1 .ld1 (.o1 (.fld 0) (.t 2))) (.t 6)))))),
 (.chk [] (.c2 (.bin .eql) (.o1 .len (.o1 .ld1 (.o1 (.fld 3) (.o2 (.idxA 4) (.o1 .ld1 (.o1 (.fld 0) (.t 2))) (.t 6))))) (.c (.int .i64 0)))),
 (.set 26 (.o2 (.bin .eql) (.o1 .len (.o1 .ld1 (.o1 (.fld 3) (.o2 (.idxA 4) (.o1 .ld1 (.o1 (.fld 0) (.t 2))) (.t 6))))) (.c (.int .i64 0))))]) (.cond 26 (.sts [(.chk [] (.c1 (.fld 0) (.t 2))),
 (.chk [] (.c1 .ld1 (.o1 (.fld 0) (.t 2)))),
 (.chk [] (.c2 (.idxA 4) (.o1 .ld1 (.o1 (.fld 0) (.t 2))) (.t 6))),
 (.chk [] (.c1 (.fld 0) (.o2 (.idxA 4) (.o1 .ld1 (.o1 (.fld 0) (.t 2))) (.t 6)))),
 (.chk [] (.c1 (.ldn 3) (.o1 (.fld 0) (.o2 (.idxA 4) (.o1 .ld1 (.o1 (.fld 0) (.t 2))) (.t 6))))),
 (.set 33 (.o1 (.ldn 3) (.o1 (.fld 0) (.o2 (.idxA 4) (.o1 .ld1 (.o1 (.fld 0) (.t 2))) (.t 6))))),
 (.eff [] (some 34) (.bsl 45 3 1 [(str []), (.slice none 0 0), (.int .i64 0)] [0]) [(.t 33)] []),
 (.eff [] (some 35) (.app 45 3 48 [(str []), (.slice none 0 0), (.int .i64 0)]) [(.t 5), (.t 34)] []),
 (.set 5 (.t 35))]) .skip))) (.sts [(.chk [] (.c2 (.bin .add) (.t 6) (.c (.int .i64 1)))),
 (.set 18 (.o2 (.bin .add) (.t 6) (.c (.int .i64 1)))),
 (.set 6 (.t 18))])))
def klInitial_L3 : S :=
 (.seq (.seq (.sts [(.chk [] (.c1 .len (.t 7))),
 (.chk [] (.c2 (.bin .lss) (.t 11) (.o1 .len (.t 7)))),
 (.chk [((.o2 (.bin .lss) (.t 11) (.o1 .len (.t 7))), true)] (.c1 .not (.t 10))),
 (.chk [] (.c3 .pick (.o2 (.bin .lss) (.t 11) (.o1 .len (.t 7))) (.o1 .not (.t 10)) (.c (.bool false)))),
 (.set 57 (.o3 .pick (.o2 (.bin .lss) (.t 11) (.o1 .len (.t 7))) (.o1 .not (.t 10)) (.c (.bool false))))]) (.cond 57 .skip (.exit 4))) (.seq (.block 5 (.sts [(.chk [] (.c2 (.idxA 2) (.t 7) (.t 11))),
 (.chk [] (.c1 (.ldn 2) (.o2 (.idxA 2) (.t 7) (.t 11)))),
 (.chk [] (.c1 (.ldn 2) (.t 9))),
 (.set 64 (.o1 (.ldn 2) (.t 9))),
 (.set 63 (.o1 (.ldn 2) (.o2 (.idxA 2) (.t 7) (.t 11)))),
 (.eff [] (some 65) (.call 22) [(.t 63), (.t 64)] []),
 (.set 10 (.t 65))])) (.sts [(.chk [] (.c2 (.bin .add) (.t 11) (.c (.int .i64 1)))),
 (.set 59 (.o2 (.bin .add) (.t 11) (.c (.int .i64 1)))),
 (.set 11 (.t 59))])))
def klInitial_L2 : S :=
 (.seq (.seq (.sts [(.chk [] (.c1 .len (.t 5))),
 (.chk [] (.c2 (.bin .lss) (.t 8) (.o1 .len (.t 5)))),
 (.set 42 (.o2 (.bin .lss) (.t 8) (.o1 .len (.t 5))))]) (.cond 42 .skip (.exit 2))) (.seq (.block 3 (.seq (.sts [(.chk [] (.c2 (.idxA 3) (.t 5) (.t 8))),
 (.chk [] (.c1 (.ldn 3) (.o2 (.idxA 3) (.t 5) (.t 8)))),
 (.set 48 (.o1 (.ldn 3) (.o2 (.idxA 3) (.t 5) (.t 8)))),
 (.eff [] (some 49) (.call 44) [(.t 48)] []),
 (.eff [] (some 9) (.alloc 75 #[(str []), (.slice none 0 0)]) [] []),
 (.eff [] none (.store 2) [(.t 9), (.t 49)] [])]) (.seq (.sts [(.set 10 (.c (.bool false)))]) (.seq (.seq (.sts [(.set 11 (.c (.int .i64 0)))]) (.block 4 (.loop klInitial_L3))) (.seq (.sts [(.chk [] (.c1 .not (.t 10))),
 (.set 67 (.o1 .not (.t 10)))]) (.cond 67 (.sts [(.chk [] (.c1 (.ldn 2) (.t 9))),
 (.set 69 (.o1 (.ldn 2) (.t 9))),
 (.eff [] (some 70) (.bsl 75 2 1 [(str []), (.slice none 0 0)] [0]) [(.t 69)] []),
 (.eff [] (some 71) (.app 75 2 40 [(str []), (.slice none 0 0)]) [(.t 7), (.t 70)] []),
 (.set 7 (.t 71))]) .skip)))))) (.sts [(.chk [] (.c2 (.bin .add) (.t 8) (.c (.int .i64 1)))),
 (.set 44 (.o2 (.bin .add) (.t 8) (.c (.int .i64 1)))),
 (.set 8 (.t 44))])))
def klInitial_S : S :=
 (.seq (.sts [(.eff [] (some 2) (.box 24) [(.t 0)] []),
 (.set 4 (.c (.slice none 0 0)))]) (.seq (.sts [(.set 5 (.c (.slice none 0 0)))]) (.seq (.seq (.sts [(.set 6 (.c (.int .i64 0)))]) (.block 0 (.loop klInitial_L1))) (.seq (.sts [(.eff [] (some 38) (.app 45 3 48 [(str []), (.slice none 0 0), (.int .i64 0)]) [(.t 5), (.t 1)] []),
 (.set 5 (.t 38))]) (.seq (.sts [(.set 7 (.c (.slice none 0 0)))]) (.seq (.seq (.sts [(.set 8 (.c (.int .i64 0)))]) (.block 2 (.loop klInitial_L2))) (.seq (.sts [(.set 4 (.t 7))]) .ret)))))))
def klInitial_E : Res := [(none, (.t 4))]
theorem klInitial_C : Try.f20.body.bind (comp Try.prog klInitial_M Try.f20.ntmps) = some klInitial_S := by kernel_rfl
theorem klInitial_R : resE Try.prog klInitial_M Try.f20.results.toList = some klInitial_E := by kernel_rfl
theorem klInitial_H (G : Ctr) (hG : GOk Try.prog G) (a0 : Value) (a1 : Value) {h : H} {K : Value → H → Prop} {KP : List PanicEntry → H → Prop} (Hw : wpS G klInitial_S (retQ klInitial_E (callK K KP)) (envOf 0 [a0, a1] env0) h) : HCX Try.prog 20 [a0, a1] h K KP :=
  .inl ⟨by kernel_rfl, hc_of mixed hG Try.func20 klInitial_C klInitial_R (of_decide_eq_true (by kernel_rfl)) Hw⟩
def klRound_M : Nat → Bool := fun i => Nat.testBit 10633825313158391957755577591989927927 i
def klRound_L1 : S :=
 (.seq (.seq (.sts [(.chk [] (.c1 (.fld 0) (.t 5))),
 (.chk [] (.c1 .ld1 (.o1 (.fld 0) (.t 5)))),
 (.chk [] (.c1 .len (.o1 .ld1 (.o1 (.fld 0) (.t 5))))),
 (.chk [] (.c2 (.bin .lss) (.t 10) (.o1 .len (.o1 .ld1 (.o1 (.fld 0) (.t 5)))))),
 (.set 34 (.o2 (.bin .lss) (.t 10) (.o1 .len (.o1 .ld1 (.o1 (.fld 0) (.t 5))))))]) (.cond 34 .skip (.exit 0))) (.seq (.block 1 (.seq (.seq (.sts [(.chk [] (.c1 (.fld 0) (.t 5))),
 (.chk [] (.c1 .ld1 (.o1 (.fld 0) (.t 5)))),
 (.chk [] (.c2 (.idxA 4) (.o1 .ld1 (.o1 (.fld 0) (.t 5))) (.t 10))),
 (.chk [] (.c1 (.fld 3) (.o2 (.idxA 4) (.o1 .ld1 (.o1 (.fld 0) (.t 5))) (.t 10)))),
 (.chk [] (.c1 .ld1 (.o1 (.fld 3) (.o2 (.idxA 4) (.o1 .ld1 (.o1 (.fld 0) (.t 5))) (.t 10))))),
 (.chk [] (.c1 .len (.o1 .ld1 (.o1 (.fld 3) (.o2 (.idxA 4) (.o1 .ld1 (.o1 (.fld 0) (.t 5))) (.t 10)))))),
 (.chk [] (.c2 (.bin .eql) (.o1 .len (.o1 .ld1 (.o1 (.fld 3) (.o2 (.idxA 4) (.o1 .ld1 (.o1 (.fld 0) (.t 5))) (.t 10))))) (.c (.int .i64 0)))),
 (.set 44 (.o2 (.bin .eql) (.o1 .len (.o1 .ld1 (.o1 (.fld 3) (.o2 (.idxA 4) (.o1 .ld1 (.o1 (.fld 0) (.t 5))) (.t 10))))) (.c (.int .i64 0))))]) (.cond 44 (.exit 1) .skip)) (.seq (.seq (.sts [(.chk [] (.c1 (.fld 2) (.t 7))),
 (.chk [] (.c1 .ld1 (.o1 (.fld 2) (.t 7)))),
 (.chk [] (.c1 .len (.o1 .ld1 (.o1 (.fld 2) (.t 7))))),
 (.chk [] (.c2 (.bin .geq) (.t 9) (.o1 .len (.o1 .ld1 (.o1 (.fld 2) (.t 7)))))),
 (.chk [((.o2 (.bin .geq) (.t 9) (.o1 .len (.o1 .ld1 (.o1 (.fld 2) (.t 7))))), false)] (.c1 (.fld 2) (.t 7))),
 (.chk [((.o2 (.bin .geq) (.t 9) (.o1 .len (.o1 .ld1 (.o1 (.fld 2) (.t 7))))), false)] (.c1 .ld1 (.o1 (.fld 2) (.t 7)))),
 (.chk [((.o2 (.bin .geq) (.t 9) (.o1 .len (.o1 .ld1 (.o1 (.fld 2) (.t 7))))), false)] (.c2 (.idxA 7) (.o1 .ld1 (.o1 (.fld 2) (.t 7))) (.t 9))),
 (.chk [((.o2 (.bin .geq) (.t 9) (.o1 .len (.o1 .ld1 (.o1 (.fld 2) (.t 7))))), false)] (.c1 (.fld 6) (.o2 (.idxA 7) (.o1 .ld1 (.o1 (.fld 2) (.t 7))) (.t 9)))),
 (.chk [((.o2 (.bin .geq) (.t 9) (.o1 .len (.o1 .ld1 (.o1 (.fld 2) (.t 7))))), false)] (.c1 .ld1 (.o1 (.fld 6) (.o2 (.idxA 7) (.o1 .ld1 (.o1 (.fld 2) (.t 7))) (.t 9))))),
 (.chk [((.o2 (.bin .geq) (.t 9) (.o1 .len (.o1 .ld1 (.o1 (.fld 2) (.t 7))))), false)] (.c2 (.bin .neq) (.o1 .ld1 (.o1 (.fld 6) (.o2 (.idxA 7) (.o1 .ld1 (.o1 (.fld 2) (.t 7))) (.t 9)))) (.t 10))),
 (.chk [] (.c3 .pick (.o2 (.bin .geq) (.t 9) (.o1 .len (.o1 .ld1 (.o1 (.fld 2) (.t 7))))) (.c (.bool true)) (.o2 (.bin .neq) (.o1 .ld1 (.o1 (.fld 6) (.o2 (.idxA 7) (.o1 .ld1 (.o1 (.fld 2) (.t 7))) (.t 9)))) (.t 10)))),
 (.set 59 (.o3 .pick (.o2 (.bin .geq) (.t 9) (.o1 .len (.o1 .ld1 (.o1 (.fld 2) (.t 7))))) (.c (.bool true)) (.o2 (.bin .neq) (.o1 .ld1 (.o1 (.fld 6) (.o2 (.idxA 7) (.o1 .ld1 (.o1 (.fld 2) (.t 7))) (.t 9)))) (.t 10))))]) (.cond 59 (.seq (.sts [(.set 4 (.c (.bool false)))]) .ret) .skip)) (.seq (.sts [(.chk [] (.c1 (.ldn 4) (.t 7))),
 (.set 61 (.o1 (.ldn 4) (.t 7))),
 (.eff [] (some 63) (.call 17) [(.t 61), (.t 9)] []),
 (.chk [] (.c1 (.ext 0) (.t 63))),
 (.chk [] (.c1 (.ext 1) (.t 63))),
 (.eff [] (some 11) (.alloc 48 #[(str []), (.slice none 0 0), (.int .i64 0), (.slice none 0 0)]) [] []),
 (.eff [] none (.store 4) [(.t 11), (.o1 (.ext 0) (.t 63))] []),
 (.set 12 (.o1 (.ext 1) (.t 63)))]) (.seq (.seq (.sts [(.chk [] (.c2 (.bin .neq) (.t 12) (.c (.int .i64 0)))),
 (.chk [((.o2 (.bin .neq) (.t 12) (.c (.int .i64 0))), false)] (.c1 (.ldn 4) (.t 11))),
 (.chk [((.o2 (.bin .neq) (.t 12) (.c (.int .i64 0))), false)] (.c1 (.fld 0) (.t 5))),
 (.chk [((.o2 (.bin .neq) (.t 12) (.c (.int .i64 0))), false)] (.c1 .ld1 (.o1 (.fld 0) (.t 5)))),
 (.chk [((.o2 (.bin .neq) (.t 12) (.c (.int .i64 0))), false)] (.c2 (.idxA 4) (.o1 .ld1 (.o1 (.fld 0) (.t 5))) (.t 10))),
 (.chk [((.o2 (.bin .neq) (.t 12) (.c (.int .i64 0))), false)] (.c1 (.ldn 4) (.o2 (.idxA 4) (.o1 .ld1 (.o1 (.fld 0) (.t 5))) (.t 10)))),
 (.set 74 (.o1 (.ldn 4) (.o2 (.idxA 4) (.o1 .ld1 (.o1 (.fld 0) (.t 5))) (.t 10)))),
 (.set 73 (.o2 (.idxA 4) (.o1 .ld1 (.o1 (.fld 0) (.t 5))) (.t 10))),
 (.set 69 (.o1 (.ldn 4) (.t 11))),
 (.eff [((.o2 (.bin .neq) (.t 12) (.c (.int .i64 0))), false)] (some 75) (.call 19) [(.t 74)] [([((.o2 (.bin .neq) (.t 12) (.c (.int .i64 0))), false)], ((.t 11), (some 4)))]),
 (.eff [((.o2 (.bin .neq) (.t 12) (.c (.int .i64 0))), false)] (some 76) (.call 18) [(.t 69), (.t 75)] []),
 (.chk [((.o2 (.bin .neq) (.t 12) (.c (.int .i64 0))), false)] (.c1 .not (.t 76))),
 (.chk [] (.c3 .pick (.o2 (.bin .neq) (.t 12) (.c (.int .i64 0))) (.c (.bool true)) (.o1 .not (.t 76)))),
 (.set 78 (.o3 .pick (.o2 (.bin .neq) (.t 12) (.c (.int .i64 0))) (.c (.bool true)) (.o1 .not (.t 76))))]) (.cond 78 (.seq (.sts [(.set 4 (.c (.bool false)))]) .ret) .skip)) (.sts [(.chk [] (.c2 (.bin .add) (.t 9) (.c (.int .i64 1)))),
 (.set 80 (.o2 (.bin .add) (.t 9) (.c (.int .i64 1)))),
 (.set 9 (.t 80))])))))) (.sts [(.chk [] (.c2 (.bin .add) (.t 10) (.c (.int .i64 1)))),
 (.set 36 (.o2 (.bin .add) (.t 10) (.c (.int .i64 1)))),
 (.set 10 (.t 36))])))
def klRound_L2 : S :=
 (.seq (.seq (.sts [(.chk [] (.c1 .len (.t 13))),
 (.chk [] (.c2 (.bin .lss) (.t 14) (.o1 .len (.t 13)))),
 (.set 100 (.o2 (.bin .lss) (.t 14) (.o1 .len (.t 13))))]) (.cond 100 .skip (.exit 2))) (.seq (.block 3 (.seq (.join (.seq (.sts [(.chk [] (.c1 (.ldn 4) (.t 7)))]) (.seq (.sts [(.chk [] (.c1 (.fld 3) (.t 7)))]) (.seq (.sts [(.chk [] (.c1 .ld1 (.o1 (.fld 3) (.t 7))))]) (.seq (.sts [(.chk [] (.c2 (.idxA 2) (.o1 .ld1 (.o1 (.fld 3) (.t 7))) (.t 14)))]) (.seq (.sts [(.chk [] (.c1 (.ldn 2) (.o2 (.idxA 2) (.o1 .ld1 (.o1 (.fld 3) (.t 7))) (.t 14))))]) (.both (.sts [(.set 109 (.o1 (.ldn 2) (.o2 (.idxA 2) (.o1 .ld1 (.o1 (.fld 3) (.t 7))) (.t 14)))),
 (.set 108 (.o2 (.idxA 2) (.o1 .ld1 (.o1 (.fld 3) (.t 7))) (.t 14))),
 (.set 104 (.o1 (.ldn 4) (.t 7))),
 (.eff [] (some 110) (.call 21) [(.t 104), (.t 109)] []),
 (.chk [] (.c1 (.ext 0) (.t 110))),
 (.chk [] (.c1 (.ext 1) (.t 110))),
 (.eff [] (some 15) (.alloc 75 #[(str []), (.slice none 0 0)]) [] []),
 (.eff [] none (.store 2) [(.t 15), (.o1 (.ext 0) (.t 110))] []),
 (.set 16 (.o1 (.ext 1) (.t 110)))]) (.sts [(.set 109 (.o1 (.ldn 2) (.o2 (.idxA 2) (.o1 .ld1 (.o1 (.fld 3) (.t 7))) (.t 14)))),
 (.set 108 (.o2 (.idxA 2) (.o1 .ld1 (.o1 (.fld 3) (.t 7))) (.t 14))),
 (.set 104 (.o1 (.ldn 4) (.t 7))),
 (.eff [] (some 15) (.alloc 75 #[(str []), (.slice none 0 0)]) [] [([], ((.t 108), (some 2))), ([], ((.o1 (.fld 3) (.t 7)), none)), ([], ((.t 7), (some 4)))]),
 (.eff [] (some 110) (.call 21) [(.t 104), (.t 109)] []),
 (.chk [] (.c1 (.ext 0) (.t 110))),
 (.chk [] (.c1 (.ext 1) (.t 110))),
 (.eff [] none (.store 2) [(.t 15), (.o1 (.ext 0) (.t 110))] []),
 (.set 16 (.o1 (.ext 1) (.t 110)))])))))))) (.seq (.sts [(.chk [] (.c2 (.bin .neq) (.t 16) (.c (.int .i64 0)))),
 (.chk [((.o2 (.bin .neq) (.t 16) (.c (.int .i64 0))), false)] (.c1 (.ldn 2) (.t 15))),
 (.chk [((.o2 (.bin .neq) (.t 16) (.c (.int .i64 0))), false)] (.c2 (.idxA 2) (.t 13) (.t 14))),
 (.chk [((.o2 (.bin .neq) (.t 16) (.c (.int .i64 0))), false)] (.c1 (.ldn 2) (.o2 (.idxA 2) (.t 13) (.t 14)))),
 (.set 120 (.o1 (.ldn 2) (.o2 (.idxA 2) (.t 13) (.t 14)))),
 (.set 116 (.o1 (.ldn 2) (.t 15))),
 (.eff [((.o2 (.bin .neq) (.t 16) (.c (.int .i64 0))), false)] (some 121) (.call 22) [(.t 116), (.t 120)] []),
 (.chk [((.o2 (.bin .neq) (.t 16) (.c (.int .i64 0))), false)] (.c1 .not (.t 121))),
 (.chk [] (.c3 .pick (.o2 (.bin .neq) (.t 16) (.c (.int .i64 0))) (.c (.bool true)) (.o1 .not (.t 121)))),
 (.set 123 (.o3 .pick (.o2 (.bin .neq) (.t 16) (.c (.int .i64 0))) (.c (.bool true)) (.o1 .not (.t 121))))]) (.cond 123 (.seq (.sts [(.set 4 (.c (.bool false)))]) .ret) .skip)))) (.sts [(.chk [] (.c2 (.bin .add) (.t 14) (.c (.int .i64 1)))),
 (.set 102 (.o2 (.bin .add) (.t 14) (.c (.int .i64 1)))),
 (.set 14 (.t 102))])))
def klRound_S : S :=
 (.seq (.sts [(.eff [] (some 2) (.box 24) [(.t 0)] []),
 (.set 4 (.c (.bool false)))]) (.seq (.sts [(.chk [] (.c1 (.ldn 1) (.t 2))),
 (.set 17 (.o1 (.ldn 1) (.t 2))),
 (.eff [] (some 18) (.call 7) [(.t 17)] []),
 (.eff [] (some 5) (.alloc 24 #[(.slice none 0 0)]) [] []),
 (.eff [] none (.store 1) [(.t 5), (.t 18)] [])]) (.seq (.sts [(.eff [] (some 20) (.call 8) [(.t 1)] []),
 (.set 6 (.t 20))]) (.seq (.sts [(.chk [] (.c1 (.ldn 1) (.t 5))),
 (.set 22 (.o1 (.ldn 1) (.t 5))),
 (.eff [] (some 24) (.call 9) [(.t 22), (.t 6)] []),
 (.chk [] (.c1 (.ext 0) (.t 24))),
 (.chk [] (.c1 (.ext 1) (.t 24))),
 (.eff [] (some 7) (.alloc 33 #[(.slice none 0 0), (.slice none 0 0), (.slice none 0 0), (.slice none 0 0)]) [] []),
 (.eff [] (some 8) (.alloc 36 #[(.int .i64 0), (.int .i64 0), (.int .i64 0)]) [] []),
 (.eff [] none (.store 4) [(.t 7), (.o1 (.ext 0) (.t 24))] []),
 (.eff [] none (.store 3) [(.t 8), (.o1 (.ext 1) (.t 24))] [])]) (.seq (.seq (.sts [(.chk [] (.c1 (.ldn 3) (.t 8))),
 (.chk [] (.cb 3 [])),
 (.chk [] (.c2 (.eqs true [(.int .i64), (.int .i64), (.int .i64)]) (.o1 (.ldn 3) (.t 8)) (.c (.agg #[(.int .i64 0), (.int .i64 0), (.int .i64 0)])))),
 (.set 29 (.o2 (.eqs true [(.int .i64), (.int .i64), (.int .i64)]) (.o1 (.ldn 3) (.t 8)) (.c (.agg #[(.int .i64 0), (.int .i64 0), (.int .i64 0)]))))]) (.cond 29 (.seq (.sts [(.set 4 (.c (.bool false)))]) .ret) .skip)) (.seq (.sts [(.set 9 (.c (.int .i64 0)))]) (.seq (.seq (.sts [(.set 10 (.c (.int .i64 0)))]) (.block 0 (.loop klRound_L1))) (.seq (.sts [(.chk [] (.c1 (.ldn 1) (.t 5))),
 (.set 81 (.o1 (.ldn 1) (.t 5))),
 (.eff [] (some 83) (.call 20) [(.t 81), (.t 6)] []),
 (.set 13 (.t 83))]) (.seq (.seq (.sts [(.chk [] (.c1 (.fld 2) (.t 7))),
 (.chk [] (.c1 .ld1 (.o1 (.fld 2) (.t 7)))),
 (.chk [] (.c1 .len (.o1 .ld1 (.o1 (.fld 2) (.t 7))))),
 (.chk [] (.c2 (.bin .neq) (.t 9) (.o1 .len (.o1 .ld1 (.o1 (.fld 2) (.t 7)))))),
 (.chk [((.o2 (.bin .neq) (.t 9) (.o1 .len (.o1 .ld1 (.o1 (.fld 2) (.t 7))))), false)] (.c1 (.fld 3) (.t 7))),
 (.chk [((.o2 (.bin .neq) (.t 9) (.o1 .len (.o1 .ld1 (.o1 (.fld 2) (.t 7))))), false)] (.c1 .ld1 (.o1 (.fld 3) (.t 7)))),
 (.chk [((.o2 (.bin .neq) (.t 9) (.o1 .len (.o1 .ld1 (.o1 (.fld 2) (.t 7))))), false)] (.c1 .len (.o1 .ld1 (.o1 (.fld 3) (.t 7))))),
 (.chk [((.o2 (.bin .neq) (.t 9) (.o1 .len (.o1 .ld1 (.o1 (.fld 2) (.t 7))))), false)] (.c1 .len (.t 13))),
 (.chk [((.o2 (.bin .neq) (.t 9) (.o1 .len (.o1 .ld1 (.o1 (.fld 2) (.t 7))))), false)] (.c2 (.bin .neq) (.o1 .len (.o1 .ld1 (.o1 (.fld 3) (.t 7)))) (.o1 .len (.t 13)))),
 (.chk [] (.c3 .pick (.o2 (.bin .neq) (.t 9) (.o1 .len (.o1 .ld1 (.o1 (.fld 2) (.t 7))))) (.c (.bool true)) (.o2 (.bin .neq) (.o1 .len (.o1 .ld1 (.o1 (.fld 3) (.t 7)))) (.o1 .len (.t 13))))),
 (.set 96 (.o3 .pick (.o2 (.bin .neq) (.t 9) (.o1 .len (.o1 .ld1 (.o1 (.fld 2) (.t 7))))) (.c (.bool true)) (.o2 (.bin .neq) (.o1 .len (.o1 .ld1 (.o1 (.fld 3) (.t 7)))) (.o1 .len (.t 13)))))]) (.cond 96 (.seq (.sts [(.set 4 (.c (.bool false)))]) .ret) .skip)) (.seq (.seq (.sts [(.set 14 (.c (.int .i64 0)))]) (.block 2 (.loop klRound_L2))) (.seq (.sts [(.set 4 (.c (.bool true)))]) .ret)))))))))))
def klRound_E : Res := [(none, (.t 4))]
theorem klRound_C : Try.f6.body.bind (comp Try.prog klRound_M Try.f6.ntmps) = some klRound_S := by kernel_rfl
theorem klRound_R : resE Try.prog klRound_M Try.f6.results.toList = some klRound_E := by kernel_rfl
theorem klRound_H (G : Ctr) (hG : GOk Try.prog G) (a0 : Value) (a1 : Value) {h : H} {K : Value → H → Prop} {KP : List PanicEntry → H → Prop} (Hw : wpS G klRound_S (retQ klRound_E (callK K KP)) (envOf 0 [a0, a1] env0) h) : HCX Try.prog 6 [a0, a1] h K KP :=
  .inl ⟨by kernel_rfl, hc_of mixed hG Try.func6 klRound_C klRound_R (of_decide_eq_true (by kernel_rfl)) Hw⟩
end Go.Proofs.Ytkobamedfbgjbaa
