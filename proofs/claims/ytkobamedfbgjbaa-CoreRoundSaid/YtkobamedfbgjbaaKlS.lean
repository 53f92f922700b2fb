/- The small statements of functions of the program, as the closed computation gives them (written by a program of ours; checked by the kernel below). -/
import Derived.Test.YtkobamedfbgjbaaEvB
import Derived.Test.YtkobamedfbgjbaaProg
import Derived.KernelRfl
import Derived.Test.YtkobamedfbgjbaaKcS
namespace Go.Proofs.Ytkobamedfbgjbaa
open Go Go.Ev
def klMod_M : Nat → Bool := fun i => Nat.testBit 1075 i
def klMod_S : S :=
 (.seq (.sts [(.set 4 (.c (.int .i64 0)))]) (.seq (.sts [(.chk [] (.c2 (.bin .rem) (.t 0) (.t 1))),
 (.set 5 (.o2 (.bin .rem) (.t 0) (.t 1)))]) (.seq (.seq (.sts [(.chk [] (.c2 (.bin .lss) (.t 5) (.c (.int .i64 0)))),
 (.set 10 (.o2 (.bin .lss) (.t 5) (.c (.int .i64 0))))]) (.cond 10 (.sts [(.chk [] (.c2 (.bin .add) (.t 5) (.t 1))),
 (.set 13 (.o2 (.bin .add) (.t 5) (.t 1))),
 (.set 5 (.t 13))]) .skip)) (.seq (.sts [(.set 4 (.t 5))]) .ret))))
def klMod_E : Res := [(none, (.t 4))]
theorem klMod_C : Try.f16.body.bind (comp Try.prog klMod_M Try.f16.ntmps) = some klMod_S := by kernel_rfl
theorem klMod_R : resE Try.prog klMod_M Try.f16.results.toList = some klMod_E := by kernel_rfl
theorem klMod_H (G : Ctr) (hG : GOk Try.prog G) (a0 : Value) (a1 : Value) {h : H} {K : Value → H → Prop} {KP : List PanicEntry → H → Prop} (Hw : wpS G klMod_S (retQ klMod_E (callK K KP)) (envOf 0 [a0, a1] env0) h) : HCX Try.prog 16 [a0, a1] h K KP :=
  .inl ⟨by kernel_rfl, hc_of mixed hG Try.func16 klMod_C klMod_R (of_decide_eq_true (by kernel_rfl)) Hw⟩
def klSize_M : Nat → Bool := fun i => Nat.testBit 1053 i
def klSize_L1 : S :=
 (.seq (.seq (.sts [(.chk [] (.c1 .lens (.t 0))),
 (.chk [] (.c2 (.bin .lss) (.t 4) (.o1 .lens (.t 0)))),
 (.set 10 (.o2 (.bin .lss) (.t 4) (.o1 .lens (.t 0))))]) (.cond 10 .skip (.exit 0))) (.seq (.block 1 (.sts [(.chk [] (.c2 .idxS (.t 0) (.t 4))),
 (.chk [] (.c1 (.conv .i64) (.o2 .idxS (.t 0) (.t 4)))),
 (.chk [] (.c2 (.bin .add) (.t 3) (.o1 (.conv .i64) (.o2 .idxS (.t 0) (.t 4))))),
 (.set 18 (.o2 (.bin .add) (.t 3) (.o1 (.conv .i64) (.o2 .idxS (.t 0) (.t 4))))),
 (.set 3 (.t 18))])) (.sts [(.chk [] (.c2 (.bin .add) (.t 4) (.c (.int .i64 1)))),
 (.set 12 (.o2 (.bin .add) (.t 4) (.c (.int .i64 1)))),
 (.set 4 (.t 12))])))
def klSize_S : S :=
 (.seq (.sts [(.set 2 (.c (.int .i64 0)))]) (.seq (.sts [(.chk [] (.c1 .lens (.t 0))),
 (.set 3 (.o1 .lens (.t 0)))]) (.seq (.seq (.sts [(.set 4 (.c (.int .i64 0)))]) (.block 0 (.loop klSize_L1))) (.seq (.sts [(.set 2 (.t 3))]) .ret))))
def klSize_E : Res := [(none, (.t 2))]
theorem klSize_C : Try.f62.body.bind (comp Try.prog klSize_M Try.f62.ntmps) = some klSize_S := by kernel_rfl
theorem klSize_R : resE Try.prog klSize_M Try.f62.results.toList = some klSize_E := by kernel_rfl
theorem klSize_H (G : Ctr) (hG : GOk Try.prog G) (a0 : Value) {h : H} {K : Value → H → Prop} {KP : List PanicEntry → H → Prop} (Hw : wpS G klSize_S (retQ klSize_E (callK K KP)) (envOf 0 [a0] env0) h) : HCX Try.prog 62 [a0] h K KP :=
  .inl ⟨by kernel_rfl, hc_of mixed hG Try.func62 klSize_C klSize_R (of_decide_eq_true (by kernel_rfl)) Hw⟩
def klPred_M : Nat → Bool := fun i => Nat.testBit 19 i
def klPred_S : S :=
 (.seq (.sts [(.set 4 (.c (str [])))]) (.seq (.sts [(.eff [] (some 6) (.call 62) [(.t 0)] []),
 (.chk [] (.c2 (.bin .rem) (.t 6) (.c (.int .i64 13)))),
 (.chk [] (.c1 (.conv .u8) (.o2 (.bin .rem) (.t 6) (.c (.int .i64 13))))),
 (.chk [] (.c2 (.bin .add) (.c (.int .u8 97)) (.o1 (.conv .u8) (.o2 (.bin .rem) (.t 6) (.c (.int .i64 13)))))),
 (.chk [] (.c1 (.conv .u8) (.t 1))),
 (.chk [] (.c2 (.bin .add) (.c (.int .u8 48)) (.o1 (.conv .u8) (.t 1)))),
 (.eff [] (some 13) (.bsl 5 1 2 [(.int .u8 0), (.int .u8 0)] [0, 1]) [(.o2 (.bin .add) (.c (.int .u8 97)) (.o1 (.conv .u8) (.o2 (.bin .rem) (.t 6) (.c (.int .i64 13))))), (.o2 (.bin .add) (.c (.int .u8 48)) (.o1 (.conv .u8) (.t 1)))] []),
 (.eff [] (some 14) .b2s [(.t 13)] []),
 (.set 4 (.t 14))]) .ret))
def klPred_E : Res := [(none, (.t 4))]
theorem klPred_C : Try.f46.body.bind (comp Try.prog klPred_M Try.f46.ntmps) = some klPred_S := by kernel_rfl
theorem klPred_R : resE Try.prog klPred_M Try.f46.results.toList = some klPred_E := by kernel_rfl
theorem klPred_H (G : Ctr) (hG : GOk Try.prog G) (a0 : Value) (a1 : Value) {h : H} {K : Value → H → Prop} {KP : List PanicEntry → H → Prop} (Hw : wpS G klPred_S (retQ klPred_E (callK K KP)) (envOf 0 [a0, a1] env0) h) : HCX Try.prog 46 [a0, a1] h K KP :=
  .inl ⟨by kernel_rfl, hc_of mixed hG Try.func46 klPred_C klPred_R (of_decide_eq_true (by kernel_rfl)) Hw⟩
def klPlain_M : Nat → Bool := fun i => Nat.testBit 8295 i
def klPlain_S : S :=
 (.seq (.sts [(.eff [] (some 1) (.box 94) [(.t 0)] []),
 (.eff [] (some 2) (.alloc 94 #[(.int .i64 0), (.int .i64 0), (str []), (.int .i64 0)]) [] [])]) (.seq (.seq (.sts [(.chk [] (.c1 (.fld 0) (.t 1))),
 (.chk [] (.c1 .ld1 (.o1 (.fld 0) (.t 1)))),
 (.set 4 (.o1 .ld1 (.o1 (.fld 0) (.t 1)))),
 (.eff [] (some 5) (.call 16) [(.t 4), (.c (.int .i64 3))] [])]) (.block 0 (.seq (.sts [(.chk [] (.c2 (.bin .eql) (.t 5) (.c (.int .i64 0)))),
 (.set 6 (.o2 (.bin .eql) (.t 5) (.c (.int .i64 0))))]) (.cond 6 (.seq (.sts [(.chk [] (.c1 (.fld 1) (.t 1))),
 (.chk [] (.c1 .ld1 (.o1 (.fld 1) (.t 1)))),
 (.chk [] (.c1 (.fld 3) (.t 1))),
 (.chk [] (.c1 .ld1 (.o1 (.fld 3) (.t 1)))),
 (.chk [] (.cb 4 [(0, (1, (.c (.int .i64 1)))), (1, (1, (.o1 .ld1 (.o1 (.fld 1) (.t 1))))), (3, (1, (.o1 .ld1 (.o1 (.fld 3) (.t 1)))))])),
 (.set 12 (.o2 (.put 3 1) (.o2 (.put 1 1) (.o2 (.put 0 1) (.c (.agg #[(.int .i64 0), (.int .i64 0), (str []), (.int .i64 0)])) (.c (.int .i64 1))) (.o1 .ld1 (.o1 (.fld 1) (.t 1)))) (.o1 .ld1 (.o1 (.fld 3) (.t 1))))),
 (.eff [] none (.store 4) [(.t 2), (.t 12)] [])]) .ret) (.seq (.sts [(.chk [] (.c2 (.bin .eql) (.t 5) (.c (.int .i64 1)))),
 (.set 13 (.o2 (.bin .eql) (.t 5) (.c (.int .i64 1))))]) (.cond 13 (.seq (.sts [(.chk [] (.c1 (.fld 2) (.t 1))),
 (.chk [] (.c1 .ld1 (.o1 (.fld 2) (.t 1)))),
 (.chk [] (.c1 (.fld 3) (.t 1))),
 (.chk [] (.c1 .ld1 (.o1 (.fld 3) (.t 1)))),
 (.set 24 (.o1 .ld1 (.o1 (.fld 3) (.t 1)))),
 (.set 16 (.o1 .ld1 (.o1 (.fld 2) (.t 1)))),
 (.eff [] (some 17) (.call 62) [(.t 16)] [([], ((.o1 (.fld 3) (.t 1)), none))]),
 (.chk [] (.c2 (.bin .rem) (.t 17) (.c (.int .i64 26)))),
 (.chk [] (.c1 (.conv .u8) (.o2 (.bin .rem) (.t 17) (.c (.int .i64 26))))),
 (.chk [] (.c2 (.bin .add) (.c (.int .u8 97)) (.o1 (.conv .u8) (.o2 (.bin .rem) (.t 17) (.c (.int .i64 26)))))),
 (.eff [] (some 21) (.bsl 5 1 1 [(.int .u8 0)] [0]) [(.o2 (.bin .add) (.c (.int .u8 97)) (.o1 (.conv .u8) (.o2 (.bin .rem) (.t 17) (.c (.int .i64 26)))))] [([], ((.o1 (.fld 3) (.t 1)), none))]),
 (.eff [] (some 22) .b2s [(.t 21)] [([], ((.o1 (.fld 3) (.t 1)), none))]),
 (.chk [] (.cb 4 [(0, (1, (.c (.int .i64 2)))), (2, (1, (.t 22))), (3, (1, (.t 24)))])),
 (.eff [] none (.store 4) [(.t 2), (.o2 (.put 3 1) (.o2 (.put 2 1) (.o2 (.put 0 1) (.c (.agg #[(.int .i64 0), (.int .i64 0), (str []), (.int .i64 0)])) (.c (.int .i64 2))) (.t 22)) (.t 24))] [])]) .ret) .skip)))))) (.seq (.sts [(.chk [] (.c1 (.fld 2) (.t 1))),
 (.chk [] (.c1 .ld1 (.o1 (.fld 2) (.t 1)))),
 (.chk [] (.c1 (.fld 2) (.t 1))),
 (.chk [] (.c1 .ld1 (.o1 (.fld 2) (.t 1)))),
 (.chk [] (.c1 .lens (.o1 .ld1 (.o1 (.fld 2) (.t 1))))),
 (.chk [] (.c2 (.mm false) (.o1 .lens (.o1 .ld1 (.o1 (.fld 2) (.t 1)))) (.c (.int .i64 255)))),
 (.chk [] (.c2 .subHi (.o1 .ld1 (.o1 (.fld 2) (.t 1))) (.o2 (.mm false) (.o1 .lens (.o1 .ld1 (.o1 (.fld 2) (.t 1)))) (.c (.int .i64 255))))),
 (.chk [] (.c1 (.fld 3) (.t 1))),
 (.chk [] (.c1 .ld1 (.o1 (.fld 3) (.t 1)))),
 (.chk [] (.cb 4 [(0, (1, (.c (.int .i64 3)))), (2, (1, (.o2 .subHi (.o1 .ld1 (.o1 (.fld 2) (.t 1))) (.o2 (.mm false) (.o1 .lens (.o1 .ld1 (.o1 (.fld 2) (.t 1)))) (.c (.int .i64 255)))))), (3, (1, (.o1 .ld1 (.o1 (.fld 3) (.t 1)))))])),
 (.set 35 (.o2 (.put 3 1) (.o2 (.put 2 1) (.o2 (.put 0 1) (.c (.agg #[(.int .i64 0), (.int .i64 0), (str []), (.int .i64 0)])) (.c (.int .i64 3))) (.o2 .subHi (.o1 .ld1 (.o1 (.fld 2) (.t 1))) (.o2 (.mm false) (.o1 .lens (.o1 .ld1 (.o1 (.fld 2) (.t 1)))) (.c (.int .i64 255))))) (.o1 .ld1 (.o1 (.fld 3) (.t 1))))),
 (.eff [] none (.store 4) [(.t 2), (.t 35)] [])]) .ret)))
def klPlain_E : Res := [((some (.c1 (.ldn 4) (.t 2))), (.o1 (.ldn 4) (.t 2)))]
theorem klPlain_C : Try.f61.body.bind (comp Try.prog klPlain_M Try.f61.ntmps) = some klPlain_S := by kernel_rfl
theorem klPlain_R : resE Try.prog klPlain_M Try.f61.results.toList = some klPlain_E := by kernel_rfl
theorem klPlain_H (G : Ctr) (hG : GOk Try.prog G) (a0 : Value) {h : H} {K : Value → H → Prop} {KP : List PanicEntry → H → Prop} (Hw : wpS G klPlain_S (retQ klPlain_E (callK K KP)) (envOf 0 [a0] env0) h) : HCX Try.prog 61 [a0] h K KP :=
  .inl ⟨by kernel_rfl, hc_of mixed hG Try.func61 klPlain_C klPlain_R (of_decide_eq_true (by kernel_rfl)) Hw⟩
def klWild_M : Nat → Bool := fun i => Nat.testBit 527 i
def klWild_S : S :=
 (.seq (.sts [(.eff [] (some 1) (.box 94) [(.t 0)] []),
 (.eff [] (some 2) (.alloc 94 #[(.int .i64 0), (.int .i64 0), (str []), (.int .i64 0)]) [] [])]) (.seq (.sts [(.chk [] (.c1 (.fld 2) (.t 1))),
 (.chk [] (.c1 .ld1 (.o1 (.fld 2) (.t 1)))),
 (.set 5 (.o1 .ld1 (.o1 (.fld 2) (.t 1)))),
 (.eff [] (some 6) (.call 62) [(.t 5)] []),
 (.chk [] (.c2 (.bin .rem) (.t 6) (.c (.int .i64 13)))),
 (.set 3 (.o2 (.bin .rem) (.t 6) (.c (.int .i64 13))))]) (.seq (.seq (.sts [(.chk [] (.c2 (.bin .eql) (.t 3) (.c (.int .i64 12)))),
 (.set 9 (.o2 (.bin .eql) (.t 3) (.c (.int .i64 12))))]) (.cond 9 (.seq (.sts [(.chk [] (.c1 (.fld 3) (.t 1))),
 (.chk [] (.c1 .ld1 (.o1 (.fld 3) (.t 1)))),
 (.chk [] (.cb 4 [(0, (1, (.c (.int .i64 4)))), (2, (1, (.c (str [95])))), (3, (1, (.o1 .ld1 (.o1 (.fld 3) (.t 1)))))])),
 (.set 12 (.o2 (.put 3 1) (.o2 (.put 2 1) (.o2 (.put 0 1) (.c (.agg #[(.int .i64 0), (.int .i64 0), (str []), (.int .i64 0)])) (.c (.int .i64 4))) (.c (str [95]))) (.o1 .ld1 (.o1 (.fld 3) (.t 1))))),
 (.eff [] none (.store 4) [(.t 2), (.t 12)] [])]) .ret) .skip)) (.seq (.sts [(.chk [] (.c1 (.conv .u8) (.t 3))),
 (.chk [] (.c2 (.bin .add) (.c (.int .u8 65)) (.o1 (.conv .u8) (.t 3)))),
 (.eff [] (some 16) (.bsl 5 1 1 [(.int .u8 0)] [0]) [(.o2 (.bin .add) (.c (.int .u8 65)) (.o1 (.conv .u8) (.t 3)))] []),
 (.eff [] (some 17) .b2s [(.t 16)] []),
 (.chk [] (.c1 (.fld 3) (.t 1))),
 (.chk [] (.c1 .ld1 (.o1 (.fld 3) (.t 1)))),
 (.chk [] (.cb 4 [(0, (1, (.c (.int .i64 4)))), (2, (1, (.t 17))), (3, (1, (.o1 .ld1 (.o1 (.fld 3) (.t 1)))))])),
 (.set 20 (.o2 (.put 3 1) (.o2 (.put 2 1) (.o2 (.put 0 1) (.c (.agg #[(.int .i64 0), (.int .i64 0), (str []), (.int .i64 0)])) (.c (.int .i64 4))) (.t 17)) (.o1 .ld1 (.o1 (.fld 3) (.t 1))))),
 (.eff [] none (.store 4) [(.t 2), (.t 20)] [])]) .ret))))
def klWild_E : Res := [((some (.c1 (.ldn 4) (.t 2))), (.o1 (.ldn 4) (.t 2)))]
theorem klWild_C : Try.f60.body.bind (comp Try.prog klWild_M Try.f60.ntmps) = some klWild_S := by kernel_rfl
theorem klWild_R : resE Try.prog klWild_M Try.f60.results.toList = some klWild_E := by kernel_rfl
theorem klWild_H (G : Ctr) (hG : GOk Try.prog G) (a0 : Value) {h : H} {K : Value → H → Prop} {KP : List PanicEntry → H → Prop} (Hw : wpS G klWild_S (retQ klWild_E (callK K KP)) (envOf 0 [a0] env0) h) : HCX Try.prog 60 [a0] h K KP :=
  .inl ⟨by kernel_rfl, hc_of mixed hG Try.func60 klWild_C klWild_R (of_decide_eq_true (by kernel_rfl)) Hw⟩
def klWithin_M : Nat → Bool := fun i => Nat.testBit 131635 i
def klWithin_L1 : S :=
 (.seq (.seq (.sts [(.chk [] (.c1 .len (.t 0))),
 (.chk [] (.c2 (.bin .lss) (.t 5) (.o1 .len (.t 0)))),
 (.set 9 (.o2 (.bin .lss) (.t 5) (.o1 .len (.t 0))))]) (.cond 9 .skip (.exit 0))) (.seq (.block 1 (.seq (.sts [(.chk [] (.c2 (.idxA 1) (.t 0) (.t 5))),
 (.chk [] (.c1 .ld1 (.o2 (.idxA 1) (.t 0) (.t 5)))),
 (.chk [] (.c2 (.bin .eql) (.o1 .ld1 (.o2 (.idxA 1) (.t 0) (.t 5))) (.t 1))),
 (.set 17 (.o2 (.bin .eql) (.o1 .ld1 (.o2 (.idxA 1) (.t 0) (.t 5))) (.t 1)))]) (.cond 17 (.seq (.sts [(.set 4 (.c (.bool true)))]) .ret) .skip))) (.sts [(.chk [] (.c2 (.bin .add) (.t 5) (.c (.int .i64 1)))),
 (.set 11 (.o2 (.bin .add) (.t 5) (.c (.int .i64 1)))),
 (.set 5 (.t 11))])))
def klWithin_S : S :=
 (.seq (.sts [(.set 4 (.c (.bool false)))]) (.seq (.seq (.sts [(.set 5 (.c (.int .i64 0)))]) (.block 0 (.loop klWithin_L1))) (.seq (.sts [(.set 4 (.c (.bool false)))]) .ret)))
def klWithin_E : Res := [(none, (.t 4))]
theorem klWithin_C : Try.f38.body.bind (comp Try.prog klWithin_M Try.f38.ntmps) = some klWithin_S := by kernel_rfl
theorem klWithin_R : resE Try.prog klWithin_M Try.f38.results.toList = some klWithin_E := by kernel_rfl
theorem klWithin_H (G : Ctr) (hG : GOk Try.prog G) (a0 : Value) (a1 : Value) {h : H} {K : Value → H → Prop} {KP : List PanicEntry → H → Prop} (Hw : wpS G klWithin_S (retQ klWithin_E (callK K KP)) (envOf 0 [a0, a1] env0) h) : HCX Try.prog 38 [a0, a1] h K KP :=
  .inl ⟨by kernel_rfl, hc_of mixed hG Try.func38 klWithin_C klWithin_R (of_decide_eq_true (by kernel_rfl)) Hw⟩
def klFree_M : Nat → Bool := fun i => Nat.testBit 4328522299 i
def klFree_S : S :=
 (.seq (.sts [(.eff [] (some 3) (.box 94) [(.t 1)] []),
 (.eff [] (some 4) (.alloc 94 #[(.int .i64 0), (.int .i64 0), (str []), (.int .i64 0)]) [] [])]) (.seq (.seq (.sts [(.chk [] (.c1 (.fld 0) (.t 3))),
 (.chk [] (.c1 .ld1 (.o1 (.fld 0) (.t 3)))),
 (.set 7 (.o1 .ld1 (.o1 (.fld 0) (.t 3)))),
 (.eff [] (some 8) (.call 16) [(.t 7), (.c (.int .i64 2))] []),
 (.chk [] (.c2 (.bin .eql) (.t 8) (.c (.int .i64 1)))),
 (.set 9 (.o2 (.bin .eql) (.t 8) (.c (.int .i64 1))))]) (.cond 9 (.seq (.sts [(.chk [] (.c1 (.ldn 4) (.t 3))),
 (.set 10 (.o1 (.ldn 4) (.t 3))),
 (.eff [] (some 11) (.call 61) [(.t 10)] []),
 (.eff [] none (.store 4) [(.t 4), (.t 11)] [])]) .ret) .skip)) (.seq (.sts [(.chk [] (.c1 (.ldn 4) (.t 3))),
 (.set 12 (.o1 (.ldn 4) (.t 3))),
 (.eff [] (some 13) (.call 60) [(.t 12)] []),
 (.eff [] (some 5) (.alloc 94 #[(.int .i64 0), (.int .i64 0), (str []), (.int .i64 0)]) [] []),
 (.eff [] none (.store 4) [(.t 5), (.t 13)] [])]) (.seq (.seq (.sts [(.chk [] (.c1 (.fld 2) (.t 5))),
 (.chk [] (.c1 .ld1 (.o1 (.fld 2) (.t 5)))),
 (.chk [] (.c2 (.bin .neq) (.o1 .ld1 (.o1 (.fld 2) (.t 5))) (.c (str [95])))),
 (.chk [((.o2 (.bin .neq) (.o1 .ld1 (.o1 (.fld 2) (.t 5))) (.c (str [95]))), true)] (.c1 .nilck (.t 0))),
 (.chk [((.o2 (.bin .neq) (.o1 .ld1 (.o1 (.fld 2) (.t 5))) (.c (str [95]))), true)] (.c1 (.fld 0) (.t 0))),
 (.chk [((.o2 (.bin .neq) (.o1 .ld1 (.o1 (.fld 2) (.t 5))) (.c (str [95]))), true)] (.c1 .ld1 (.o1 (.fld 0) (.t 0)))),
 (.chk [((.o2 (.bin .neq) (.o1 .ld1 (.o1 (.fld 2) (.t 5))) (.c (str [95]))), true)] (.c1 (.fld 2) (.t 5))),
 (.chk [((.o2 (.bin .neq) (.o1 .ld1 (.o1 (.fld 2) (.t 5))) (.c (str [95]))), true)] (.c1 .ld1 (.o1 (.fld 2) (.t 5)))),
 (.set 23 (.o1 .ld1 (.o1 (.fld 2) (.t 5)))),
 (.set 21 (.o1 .ld1 (.o1 (.fld 0) (.t 0)))),
 (.set 17 (.o2 (.bin .neq) (.o1 .ld1 (.o1 (.fld 2) (.t 5))) (.c (str [95])))),
 (.eff [((.t 17), true)] (some 24) (.call 38) [(.t 21), (.t 23)] []),
 (.chk [] (.c3 .pick (.t 17) (.t 24) (.c (.bool false)))),
 (.set 25 (.o3 .pick (.t 17) (.t 24) (.c (.bool false))))]) (.cond 25 (.seq (.sts [(.chk [] (.c1 (.ldn 4) (.t 5))),
 (.set 26 (.o1 (.ldn 4) (.t 5))),
 (.eff [] none (.store 4) [(.t 4), (.t 26)] [])]) .ret) .skip)) (.seq (.seq (.sts [(.chk [] (.c1 .nilck (.t 0))),
 (.chk [] (.c1 (.fld 0) (.t 0))),
 (.chk [] (.c1 .ld1 (.o1 (.fld 0) (.t 0)))),
 (.chk [] (.c1 .len (.o1 .ld1 (.o1 (.fld 0) (.t 0))))),
 (.chk [] (.c2 (.bin .geq) (.o1 .len (.o1 .ld1 (.o1 (.fld 0) (.t 0)))) (.c (.int .i64 16)))),
 (.set 32 (.o2 (.bin .geq) (.o1 .len (.o1 .ld1 (.o1 (.fld 0) (.t 0)))) (.c (.int .i64 16))))]) (.cond 32 (.seq (.sts [(.chk [] (.c1 (.ldn 4) (.t 3))),
 (.set 33 (.o1 (.ldn 4) (.t 3))),
 (.eff [] (some 34) (.call 61) [(.t 33)] []),
 (.eff [] none (.store 4) [(.t 4), (.t 34)] [])]) .ret) .skip)) (.seq (.sts [(.chk [] (.c1 .nilck (.t 0))),
 (.chk [] (.c1 (.fld 0) (.t 0))),
 (.chk [] (.c1 .ld1 (.o1 (.fld 0) (.t 0)))),
 (.chk [] (.c1 (.fld 2) (.t 5))),
 (.chk [] (.c1 .ld1 (.o1 (.fld 2) (.t 5)))),
 (.set 41 (.o1 .ld1 (.o1 (.fld 2) (.t 5)))),
 (.set 39 (.o1 .ld1 (.o1 (.fld 0) (.t 0)))),
 (.eff [] (some 42) (.bsl 9 1 1 [(str [])] [0]) [(.t 41)] [([], ((.o1 (.fld 0) (.t 0)), none))]),
 (.eff [] (some 43) (.app 9 1 16 [(str [])]) [(.t 39), (.t 42)] []),
 (.chk [] (.c1 .nilck (.t 0))),
 (.chk [] (.c1 (.fld 0) (.t 0))),
 (.eff [] none (.store 1) [(.o1 (.fld 0) (.t 0)), (.t 43)] [])]) (.seq (.sts [(.chk [] (.c1 (.ldn 4) (.t 5))),
 (.set 46 (.o1 (.ldn 4) (.t 5))),
 (.eff [] none (.store 4) [(.t 4), (.t 46)] [])]) .ret)))))))
def klFree_E : Res := [((some (.c1 (.ldn 4) (.t 4))), (.o1 (.ldn 4) (.t 4)))]
theorem klFree_C : Try.f47.body.bind (comp Try.prog klFree_M Try.f47.ntmps) = some klFree_S := by kernel_rfl
theorem klFree_R : resE Try.prog klFree_M Try.f47.results.toList = some klFree_E := by kernel_rfl
theorem klFree_H (G : Ctr) (hG : GOk Try.prog G) (a0 : Value) (a1 : Value) {h : H} {K : Value → H → Prop} {KP : List PanicEntry → H → Prop} (Hw : wpS G klFree_S (retQ klFree_E (callK K KP)) (envOf 0 [a0, a1] env0) h) : HCX Try.prog 47 [a0, a1] h K KP :=
  .inl ⟨by kernel_rfl, hc_of mixed hG Try.func47 klFree_C klFree_R (of_decide_eq_true (by kernel_rfl)) Hw⟩
def klTied_M : Nat → Bool := fun i => Nat.testBit 33554491 i
def klTied_S : S :=
 (.seq (.sts [(.eff [] (some 3) (.box 94) [(.t 1)] []),
 (.eff [] (some 4) (.alloc 94 #[(.int .i64 0), (.int .i64 0), (str []), (.int .i64 0)]) [] [])]) (.seq (.sts [(.chk [] (.c1 (.ldn 4) (.t 3))),
 (.set 6 (.o1 (.ldn 4) (.t 3))),
 (.eff [] (some 7) (.call 60) [(.t 6)] []),
 (.eff [] (some 5) (.alloc 94 #[(.int .i64 0), (.int .i64 0), (str []), (.int .i64 0)]) [] []),
 (.eff [] none (.store 4) [(.t 5), (.t 7)] [])]) (.seq (.seq (.sts [(.chk [] (.c1 (.fld 0) (.t 3))),
 (.chk [] (.c1 .ld1 (.o1 (.fld 0) (.t 3)))),
 (.set 9 (.o1 .ld1 (.o1 (.fld 0) (.t 3)))),
 (.eff [] (some 10) (.call 16) [(.t 9), (.c (.int .i64 3))] []),
 (.chk [] (.c2 (.bin .neq) (.t 10) (.c (.int .i64 1)))),
 (.chk [((.o2 (.bin .neq) (.t 10) (.c (.int .i64 1))), true)] (.c1 (.fld 2) (.t 5))),
 (.chk [((.o2 (.bin .neq) (.t 10) (.c (.int .i64 1))), true)] (.c1 .ld1 (.o1 (.fld 2) (.t 5)))),
 (.chk [((.o2 (.bin .neq) (.t 10) (.c (.int .i64 1))), true)] (.c2 (.bin .neq) (.o1 .ld1 (.o1 (.fld 2) (.t 5))) (.c (str [95])))),
 (.chk [] (.c3 .pick (.o2 (.bin .neq) (.t 10) (.c (.int .i64 1))) (.o2 (.bin .neq) (.o1 .ld1 (.o1 (.fld 2) (.t 5))) (.c (str [95]))) (.c (.bool false)))),
 (.chk [((.o3 .pick (.o2 (.bin .neq) (.t 10) (.c (.int .i64 1))) (.o2 (.bin .neq) (.o1 .ld1 (.o1 (.fld 2) (.t 5))) (.c (str [95]))) (.c (.bool false))), true)] (.c1 .nilck (.t 0))),
 (.chk [((.o3 .pick (.o2 (.bin .neq) (.t 10) (.c (.int .i64 1))) (.o2 (.bin .neq) (.o1 .ld1 (.o1 (.fld 2) (.t 5))) (.c (str [95]))) (.c (.bool false))), true)] (.c1 (.fld 0) (.t 0))),
 (.chk [((.o3 .pick (.o2 (.bin .neq) (.t 10) (.c (.int .i64 1))) (.o2 (.bin .neq) (.o1 .ld1 (.o1 (.fld 2) (.t 5))) (.c (str [95]))) (.c (.bool false))), true)] (.c1 .ld1 (.o1 (.fld 0) (.t 0)))),
 (.chk [((.o3 .pick (.o2 (.bin .neq) (.t 10) (.c (.int .i64 1))) (.o2 (.bin .neq) (.o1 .ld1 (.o1 (.fld 2) (.t 5))) (.c (str [95]))) (.c (.bool false))), true)] (.c1 (.fld 2) (.t 5))),
 (.chk [((.o3 .pick (.o2 (.bin .neq) (.t 10) (.c (.int .i64 1))) (.o2 (.bin .neq) (.o1 .ld1 (.o1 (.fld 2) (.t 5))) (.c (str [95]))) (.c (.bool false))), true)] (.c1 .ld1 (.o1 (.fld 2) (.t 5)))),
 (.set 23 (.o1 .ld1 (.o1 (.fld 2) (.t 5)))),
 (.set 21 (.o1 .ld1 (.o1 (.fld 0) (.t 0)))),
 (.set 17 (.o3 .pick (.o2 (.bin .neq) (.t 10) (.c (.int .i64 1))) (.o2 (.bin .neq) (.o1 .ld1 (.o1 (.fld 2) (.t 5))) (.c (str [95]))) (.c (.bool false)))),
 (.eff [((.t 17), true)] (some 24) (.call 38) [(.t 21), (.t 23)] []),
 (.chk [] (.c3 .pick (.t 17) (.t 24) (.c (.bool false)))),
 (.set 25 (.o3 .pick (.t 17) (.t 24) (.c (.bool false))))]) (.cond 25 (.seq (.sts [(.chk [] (.c1 (.ldn 4) (.t 5))),
 (.set 26 (.o1 (.ldn 4) (.t 5))),
 (.eff [] none (.store 4) [(.t 4), (.t 26)] [])]) .ret) .skip)) (.seq (.sts [(.chk [] (.c1 (.ldn 4) (.t 3))),
 (.set 27 (.o1 (.ldn 4) (.t 3))),
 (.eff [] (some 28) (.call 61) [(.t 27)] []),
 (.eff [] none (.store 4) [(.t 4), (.t 28)] [])]) .ret))))
def klTied_E : Res := [((some (.c1 (.ldn 4) (.t 4))), (.o1 (.ldn 4) (.t 4)))]
theorem klTied_C : Try.f45.body.bind (comp Try.prog klTied_M Try.f45.ntmps) = some klTied_S := by kernel_rfl
theorem klTied_R : resE Try.prog klTied_M Try.f45.results.toList = some klTied_E := by kernel_rfl
theorem klTied_H (G : Ctr) (hG : GOk Try.prog G) (a0 : Value) (a1 : Value) {h : H} {K : Value → H → Prop} {KP : List PanicEntry → H → Prop} (Hw : wpS G klTied_S (retQ klTied_E (callK K KP)) (envOf 0 [a0, a1] env0) h) : HCX Try.prog 45 [a0, a1] h K KP :=
  .inl ⟨by kernel_rfl, hc_of mixed hG Try.func45 klTied_C klTied_R (of_decide_eq_true (by kernel_rfl)) Hw⟩
def klAtom_M : Nat → Bool := fun i => Nat.testBit 75498455 i
def klAtom_L1 : S :=
 (.seq (.seq (.sts [(.chk [] (.c2 (.bin .lss) (.t 9) (.t 7))),
 (.set 23 (.o2 (.bin .lss) (.t 9) (.t 7)))]) (.cond 23 .skip (.exit 0))) (.seq (.block 1 (.seq (.sts [(.set 26 (.t 2))]) (.cond 26 (.sts [(.chk [] (.c1 (.fld 1) (.t 8))),
 (.chk [] (.c1 .ld1 (.o1 (.fld 1) (.t 8)))),
 (.chk [] (.c1 (.fld 1) (.t 4))),
 (.chk [] (.c1 .ld1 (.o1 (.fld 1) (.t 4)))),
 (.chk [] (.c2 (.idxA 4) (.o1 .ld1 (.o1 (.fld 1) (.t 4))) (.t 9))),
 (.chk [] (.c1 (.ldn 4) (.o2 (.idxA 4) (.o1 .ld1 (.o1 (.fld 1) (.t 4))) (.t 9)))),
 (.set 34 (.o1 (.ldn 4) (.o2 (.idxA 4) (.o1 .ld1 (.o1 (.fld 1) (.t 4))) (.t 9)))),
 (.set 33 (.o2 (.idxA 4) (.o1 .ld1 (.o1 (.fld 1) (.t 4))) (.t 9))),
 (.set 28 (.o1 .ld1 (.o1 (.fld 1) (.t 8)))),
 (.eff [] (some 35) (.call 47) [(.t 0), (.t 34)] [([], ((.o1 (.fld 1) (.t 8)), none))]),
 (.eff [] (some 36) (.bsl 94 4 1 [(.int .i64 0), (.int .i64 0), (str []), (.int .i64 0)] [0]) [(.t 35)] [([], ((.o1 (.fld 1) (.t 8)), none))]),
 (.eff [] (some 37) (.app 94 4 40 [(.int .i64 0), (.int .i64 0), (str []), (.int .i64 0)]) [(.t 28), (.t 36)] []),
 (.chk [] (.c1 (.fld 1) (.t 8))),
 (.eff [] none (.store 1) [(.o1 (.fld 1) (.t 8)), (.t 37)] [])]) (.sts [(.chk [] (.c1 (.fld 1) (.t 8))),
 (.chk [] (.c1 .ld1 (.o1 (.fld 1) (.t 8)))),
 (.chk [] (.c1 (.fld 1) (.t 4))),
 (.chk [] (.c1 .ld1 (.o1 (.fld 1) (.t 4)))),
 (.chk [] (.c2 (.idxA 4) (.o1 .ld1 (.o1 (.fld 1) (.t 4))) (.t 9))),
 (.chk [] (.c1 (.ldn 4) (.o2 (.idxA 4) (.o1 .ld1 (.o1 (.fld 1) (.t 4))) (.t 9)))),
 (.set 46 (.o1 (.ldn 4) (.o2 (.idxA 4) (.o1 .ld1 (.o1 (.fld 1) (.t 4))) (.t 9)))),
 (.set 45 (.o2 (.idxA 4) (.o1 .ld1 (.o1 (.fld 1) (.t 4))) (.t 9))),
 (.set 40 (.o1 .ld1 (.o1 (.fld 1) (.t 8)))),
 (.eff [] (some 47) (.call 45) [(.t 0), (.t 46)] [([], ((.o1 (.fld 1) (.t 8)), none))]),
 (.eff [] (some 48) (.bsl 94 4 1 [(.int .i64 0), (.int .i64 0), (str []), (.int .i64 0)] [0]) [(.t 47)] [([], ((.o1 (.fld 1) (.t 8)), none))]),
 (.eff [] (some 49) (.app 94 4 40 [(.int .i64 0), (.int .i64 0), (str []), (.int .i64 0)]) [(.t 40), (.t 48)] []),
 (.chk [] (.c1 (.fld 1) (.t 8))),
 (.eff [] none (.store 1) [(.o1 (.fld 1) (.t 8)), (.t 49)] [])])))) (.sts [(.chk [] (.c2 (.bin .add) (.t 9) (.c (.int .i64 1)))),
 (.set 25 (.o2 (.bin .add) (.t 9) (.c (.int .i64 1)))),
 (.set 9 (.t 25))])))
def klAtom_S : S :=
 (.seq (.sts [(.eff [] (some 4) (.box 45) [(.t 1)] []),
 (.eff [] (some 6) (.alloc 45 #[(str []), (.slice none 0 0), (.int .i64 0)]) [] [])]) (.seq (.sts [(.chk [] (.c1 (.fld 1) (.t 4))),
 (.chk [] (.c1 .ld1 (.o1 (.fld 1) (.t 4)))),
 (.chk [] (.c1 .len (.o1 .ld1 (.o1 (.fld 1) (.t 4))))),
 (.chk [] (.c2 (.mm false) (.o1 .len (.o1 .ld1 (.o1 (.fld 1) (.t 4)))) (.c (.int .i64 8)))),
 (.set 7 (.o2 (.mm false) (.o1 .len (.o1 .ld1 (.o1 (.fld 1) (.t 4)))) (.c (.int .i64 8))))]) (.seq (.join (.seq (.sts [(.chk [] (.c1 (.fld 0) (.t 4)))]) (.seq (.sts [(.chk [] (.c1 .ld1 (.o1 (.fld 0) (.t 4))))]) (.seq (.sts [(.chk [] (.c1 (.fld 2) (.t 4)))]) (.seq (.sts [(.chk [] (.c1 .ld1 (.o1 (.fld 2) (.t 4))))]) (.both (.sts [(.set 19 (.o1 .ld1 (.o1 (.fld 2) (.t 4)))),
 (.set 15 (.o1 .ld1 (.o1 (.fld 0) (.t 4)))),
 (.eff [] (some 17) (.call 46) [(.t 15), (.t 7)] [([], ((.o1 (.fld 2) (.t 4)), none))]),
 (.chk [] (.cb 3 [(0, (1, (.t 17))), (2, (1, (.t 19)))])),
 (.eff [] (some 8) (.alloc 45 #[(str []), (.slice none 0 0), (.int .i64 0)]) [] [([], ((.o1 (.fld 2) (.t 4)), none))]),
 (.eff [] none (.store 3) [(.t 8), (.o2 (.put 2 1) (.o2 (.put 0 1) (.c (.agg #[(str []), (.slice none 0 0), (.int .i64 0)])) (.t 17)) (.t 19))] [])]) (.sts [(.set 19 (.o1 .ld1 (.o1 (.fld 2) (.t 4)))),
 (.set 15 (.o1 .ld1 (.o1 (.fld 0) (.t 4)))),
 (.eff [] (some 8) (.alloc 45 #[(str []), (.slice none 0 0), (.int .i64 0)]) [] [([], ((.o1 (.fld 2) (.t 4)), none)), ([], ((.o1 (.fld 0) (.t 4)), none))]),
 (.eff [] (some 17) (.call 46) [(.t 15), (.t 7)] [([], ((.o1 (.fld 2) (.t 4)), none))]),
 (.chk [] (.cb 3 [(0, (1, (.t 17))), (2, (1, (.t 19)))])),
 (.eff [] none (.store 3) [(.t 8), (.o2 (.put 2 1) (.o2 (.put 0 1) (.c (.agg #[(str []), (.slice none 0 0), (.int .i64 0)])) (.t 17)) (.t 19))] [])]))))))) (.seq (.seq (.sts [(.set 9 (.c (.int .i64 0)))]) (.block 0 (.loop klAtom_L1))) (.seq (.sts [(.chk [] (.c1 (.ldn 3) (.t 8))),
 (.set 51 (.o1 (.ldn 3) (.t 8))),
 (.eff [] none (.store 3) [(.t 6), (.t 51)] [])]) .ret)))))
def klAtom_E : Res := [((some (.c1 (.ldn 3) (.t 6))), (.o1 (.ldn 3) (.t 6)))]
theorem klAtom_C : Try.f24.body.bind (comp Try.prog klAtom_M Try.f24.ntmps) = some klAtom_S := by kernel_rfl
theorem klAtom_R : resE Try.prog klAtom_M Try.f24.results.toList = some klAtom_E := by kernel_rfl
theorem klAtom_H (G : Ctr) (hG : GOk Try.prog G) (a0 : Value) (a1 : Value) (a2 : Value) {h : H} {K : Value → H → Prop} {KP : List PanicEntry → H → Prop} (Hw : wpS G klAtom_S (retQ klAtom_E (callK K KP)) (envOf 0 [a0, a1, a2] env0) h) : HCX Try.prog 24 [a0, a1, a2] h K KP :=
  .inl ⟨by kernel_rfl, hc_of mixed hG Try.func24 klAtom_C klAtom_R (of_decide_eq_true (by kernel_rfl)) Hw⟩
def klBody_M : Nat → Bool := fun i => Nat.testBit 2361196769825924383219 i
def klBody_L1 : S :=
 (.seq (.seq (.sts [(.chk [] (.c2 (.bin .lss) (.t 7) (.t 5))),
 (.set 16 (.o2 (.bin .lss) (.t 7) (.t 5)))]) (.cond 16 .skip (.exit 0))) (.seq (.block 1 (.seq (.sts [(.chk [] (.c2 (.idxA 14) (.t 1) (.t 7))),
 (.chk [] (.c1 (.fld 0) (.o2 (.idxA 14) (.t 1) (.t 7)))),
 (.chk [] (.c1 .ld1 (.o1 (.fld 0) (.o2 (.idxA 14) (.t 1) (.t 7))))),
 (.set 23 (.o1 .ld1 (.o1 (.fld 0) (.o2 (.idxA 14) (.t 1) (.t 7))))),
 (.eff [] (some 24) (.call 16) [(.t 23), (.c (.int .i64 4))] []),
 (.chk [] (.c2 (.bin .lss) (.t 24) (.c (.int .i64 2)))),
 (.set 25 (.o2 (.bin .lss) (.t 24) (.c (.int .i64 2))))]) (.cond 25 (.sts [(.chk [] (.c2 (.idxA 14) (.t 1) (.t 7))),
 (.chk [] (.c1 (.fld 1) (.o2 (.idxA 14) (.t 1) (.t 7)))),
 (.chk [] (.c1 (.ldn 3) (.o1 (.fld 1) (.o2 (.idxA 14) (.t 1) (.t 7))))),
 (.chk [] (.c2 (.idxA 14) (.t 1) (.t 7))),
 (.chk [] (.c1 (.fld 13) (.o2 (.idxA 14) (.t 1) (.t 7)))),
 (.chk [] (.c1 .ld1 (.o1 (.fld 13) (.o2 (.idxA 14) (.t 1) (.t 7))))),
 (.set 39 (.o1 .ld1 (.o1 (.fld 13) (.o2 (.idxA 14) (.t 1) (.t 7))))),
 (.set 33 (.o1 (.ldn 3) (.o1 (.fld 1) (.o2 (.idxA 14) (.t 1) (.t 7))))),
 (.eff [] (some 34) (.call 24) [(.t 0), (.t 33), (.c (.bool true))] [([], ((.o1 (.fld 13) (.o2 (.idxA 14) (.t 1) (.t 7))), none))]),
 (.chk [] (.cb 14 [(0, (1, (.c (.int .i64 1)))), (1, (3, (.t 34))), (13, (1, (.t 39)))])),
 (.chk [] (.c2 (.idxA 14) (.t 6) (.t 7))),
 (.eff [] none (.store 14) [(.o2 (.idxA 14) (.t 6) (.t 7)), (.o2 (.put 13 1) (.o2 (.put 1 3) (.o2 (.put 0 1) (.c (.agg #[(.int .i64 0), (str []), (.slice none 0 0), (.int .i64 0), (.int .i64 0), (.int .i64 0), (.int .i64 0), (str []), (.int .i64 0), (.int .i64 0), (.int .i64 0), (str []), (.int .i64 0), (.int .i64 0)])) (.c (.int .i64 1))) (.t 34)) (.t 39))] [])]) .skip))) (.sts [(.chk [] (.c2 (.bin .add) (.t 7) (.c (.int .i64 1)))),
 (.set 18 (.o2 (.bin .add) (.t 7) (.c (.int .i64 1)))),
 (.set 7 (.t 18))])))
def klBody_L2 : S :=
 (.seq (.seq (.sts [(.chk [] (.c2 (.bin .lss) (.t 8) (.t 5))),
 (.set 44 (.o2 (.bin .lss) (.t 8) (.t 5)))]) (.cond 44 .skip (.exit 2))) (.seq (.block 3 (.seq (.sts [(.chk [] (.c2 (.idxA 14) (.t 1) (.t 8))),
 (.chk [] (.c1 (.fld 0) (.o2 (.idxA 14) (.t 1) (.t 8)))),
 (.chk [] (.c1 .ld1 (.o1 (.fld 0) (.o2 (.idxA 14) (.t 1) (.t 8))))),
 (.set 51 (.o1 .ld1 (.o1 (.fld 0) (.o2 (.idxA 14) (.t 1) (.t 8))))),
 (.eff [] (some 52) (.call 16) [(.t 51), (.c (.int .i64 4))] [])]) (.block 4 (.seq (.sts [(.chk [] (.c2 (.bin .eql) (.t 52) (.c (.int .i64 2)))),
 (.set 53 (.o2 (.bin .eql) (.t 52) (.c (.int .i64 2))))]) (.cond 53 (.sts [(.chk [] (.c2 (.idxA 14) (.t 1) (.t 8))),
 (.chk [] (.c1 (.fld 1) (.o2 (.idxA 14) (.t 1) (.t 8)))),
 (.chk [] (.c1 (.ldn 3) (.o1 (.fld 1) (.o2 (.idxA 14) (.t 1) (.t 8))))),
 (.chk [] (.c2 (.idxA 14) (.t 1) (.t 8))),
 (.chk [] (.c1 (.fld 13) (.o2 (.idxA 14) (.t 1) (.t 8)))),
 (.chk [] (.c1 .ld1 (.o1 (.fld 13) (.o2 (.idxA 14) (.t 1) (.t 8))))),
 (.set 68 (.o1 .ld1 (.o1 (.fld 13) (.o2 (.idxA 14) (.t 1) (.t 8))))),
 (.set 62 (.o1 (.ldn 3) (.o1 (.fld 1) (.o2 (.idxA 14) (.t 1) (.t 8))))),
 (.eff [] (some 63) (.call 24) [(.t 0), (.t 62), (.c (.bool false))] [([], ((.o1 (.fld 13) (.o2 (.idxA 14) (.t 1) (.t 8))), none))]),
 (.chk [] (.cb 14 [(0, (1, (.c (.int .i64 2)))), (1, (3, (.t 63))), (13, (1, (.t 68)))])),
 (.chk [] (.c2 (.idxA 14) (.t 6) (.t 8))),
 (.eff [] none (.store 14) [(.o2 (.idxA 14) (.t 6) (.t 8)), (.o2 (.put 13 1) (.o2 (.put 1 3) (.o2 (.put 0 1) (.c (.agg #[(.int .i64 0), (str []), (.slice none 0 0), (.int .i64 0), (.int .i64 0), (.int .i64 0), (.int .i64 0), (str []), (.int .i64 0), (.int .i64 0), (.int .i64 0), (str []), (.int .i64 0), (.int .i64 0)])) (.c (.int .i64 2))) (.t 63)) (.t 68))] [])]) (.seq (.sts [(.chk [] (.c2 (.bin .eql) (.t 52) (.c (.int .i64 3)))),
 (.set 71 (.o2 (.bin .eql) (.t 52) (.c (.int .i64 3))))]) (.cond 71 (.sts [(.chk [] (.c2 (.idxA 14) (.t 1) (.t 8))),
 (.chk [] (.c1 (.fld 4) (.o2 (.idxA 14) (.t 1) (.t 8)))),
 (.chk [] (.c1 .ld1 (.o1 (.fld 4) (.o2 (.idxA 14) (.t 1) (.t 8))))),
 (.chk [] (.c2 (.idxA 14) (.t 1) (.t 8))),
 (.chk [] (.c1 (.fld 5) (.o2 (.idxA 14) (.t 1) (.t 8)))),
 (.chk [] (.c1 (.ldn 4) (.o1 (.fld 5) (.o2 (.idxA 14) (.t 1) (.t 8))))),
 (.chk [] (.c2 (.idxA 14) (.t 1) (.t 8))),
 (.chk [] (.c1 (.fld 9) (.o2 (.idxA 14) (.t 1) (.t 8)))),
 (.chk [] (.c1 (.ldn 4) (.o1 (.fld 9) (.o2 (.idxA 14) (.t 1) (.t 8))))),
 (.chk [] (.c2 (.idxA 14) (.t 1) (.t 8))),
 (.chk [] (.c1 (.fld 13) (.o2 (.idxA 14) (.t 1) (.t 8)))),
 (.chk [] (.c1 .ld1 (.o1 (.fld 13) (.o2 (.idxA 14) (.t 1) (.t 8))))),
 (.set 100 (.o1 .ld1 (.o1 (.fld 13) (.o2 (.idxA 14) (.t 1) (.t 8))))),
 (.set 94 (.o1 (.ldn 4) (.o1 (.fld 9) (.o2 (.idxA 14) (.t 1) (.t 8))))),
 (.set 87 (.o1 (.ldn 4) (.o1 (.fld 5) (.o2 (.idxA 14) (.t 1) (.t 8))))),
 (.set 79 (.o1 .ld1 (.o1 (.fld 4) (.o2 (.idxA 14) (.t 1) (.t 8))))),
 (.eff [] (some 80) (.call 16) [(.t 79), (.c (.int .i64 6))] [([], ((.o1 (.fld 13) (.o2 (.idxA 14) (.t 1) (.t 8))), none)), ([], ((.o1 (.fld 9) (.o2 (.idxA 14) (.t 1) (.t 8))), (some 4))), ([], ((.o1 (.fld 5) (.o2 (.idxA 14) (.t 1) (.t 8))), (some 4)))]),
 (.chk [] (.c2 (.bin .add) (.c (.int .i64 1)) (.t 80))),
 (.eff [] (some 88) (.call 45) [(.t 0), (.t 87)] [([], ((.o1 (.fld 13) (.o2 (.idxA 14) (.t 1) (.t 8))), none)), ([], ((.o1 (.fld 9) (.o2 (.idxA 14) (.t 1) (.t 8))), (some 4)))]),
 (.eff [] (some 95) (.call 45) [(.t 0), (.t 94)] [([], ((.o1 (.fld 13) (.o2 (.idxA 14) (.t 1) (.t 8))), none))]),
 (.chk [] (.cb 14 [(0, (1, (.c (.int .i64 3)))), (4, (1, (.o2 (.bin .add) (.c (.int .i64 1)) (.t 80)))), (5, (4, (.t 88))), (9, (4, (.t 95))), (13, (1, (.t 100)))])),
 (.chk [] (.c2 (.idxA 14) (.t 6) (.t 8))),
 (.eff [] none (.store 14) [(.o2 (.idxA 14) (.t 6) (.t 8)), (.o2 (.put 13 1) (.o2 (.put 9 4) (.o2 (.put 5 4) (.o2 (.put 4 1) (.o2 (.put 0 1) (.c (.agg #[(.int .i64 0), (str []), (.slice none 0 0), (.int .i64 0), (.int .i64 0), (.int .i64 0), (.int .i64 0), (str []), (.int .i64 0), (.int .i64 0), (.int .i64 0), (str []), (.int .i64 0), (.int .i64 0)])) (.c (.int .i64 3))) (.o2 (.bin .add) (.c (.int .i64 1)) (.t 80))) (.t 88)) (.t 95)) (.t 100))] [])]) .skip))))))) (.sts [(.chk [] (.c2 (.bin .add) (.t 8) (.c (.int .i64 1)))),
 (.set 46 (.o2 (.bin .add) (.t 8) (.c (.int .i64 1)))),
 (.set 8 (.t 46))])))
def klBody_S : S :=
 (.seq (.sts [(.set 4 (.c (.slice none 0 0)))]) (.seq (.sts [(.chk [] (.c1 .len (.t 1))),
 (.chk [] (.c2 (.mm false) (.o1 .len (.t 1)) (.c (.int .i64 16)))),
 (.set 5 (.o2 (.mm false) (.o1 .len (.t 1)) (.c (.int .i64 16))))]) (.seq (.sts [(.eff [] (some 13) (.mks 109 14 152 [(.int .i64 0), (str []), (.slice none 0 0), (.int .i64 0), (.int .i64 0), (.int .i64 0), (.int .i64 0), (str []), (.int .i64 0), (.int .i64 0), (.int .i64 0), (str []), (.int .i64 0), (.int .i64 0)]) [(.t 5), (.t 5)] []),
 (.set 6 (.t 13))]) (.seq (.seq (.sts [(.set 7 (.c (.int .i64 0)))]) (.block 0 (.loop klBody_L1))) (.seq (.seq (.sts [(.set 8 (.c (.int .i64 0)))]) (.block 2 (.loop klBody_L2))) (.seq (.sts [(.set 4 (.t 6))]) .ret))))))
def klBody_E : Res := [(none, (.t 4))]
theorem klBody_C : Try.f23.body.bind (comp Try.prog klBody_M Try.f23.ntmps) = some klBody_S := by kernel_rfl
theorem klBody_R : resE Try.prog klBody_M Try.f23.results.toList = some klBody_E := by kernel_rfl
theorem klBody_H (G : Ctr) (hG : GOk Try.prog G) (a0 : Value) (a1 : Value) {h : H} {K : Value → H → Prop} {KP : List PanicEntry → H → Prop} (Hw : wpS G klBody_S (retQ klBody_E (callK K KP)) (envOf 0 [a0, a1] env0) h) : HCX Try.prog 23 [a0, a1] h K KP :=
  .inl ⟨by kernel_rfl, hc_of mixed hG Try.func23 klBody_C klBody_R (of_decide_eq_true (by kernel_rfl)) Hw⟩
def klRight_M : Nat → Bool := fun i => Nat.testBit 65663 i
def klRight_L1 : S :=
 (.seq (.seq (.sts [(.chk [] (.c1 (.fld 0) (.t 1))),
 (.chk [] (.c1 .ld1 (.o1 (.fld 0) (.t 1)))),
 (.chk [] (.c1 .len (.o1 .ld1 (.o1 (.fld 0) (.t 1))))),
 (.chk [] (.c2 (.bin .lss) (.t 4) (.o1 .len (.o1 .ld1 (.o1 (.fld 0) (.t 1)))))),
 (.chk [((.o2 (.bin .lss) (.t 4) (.o1 .len (.o1 .ld1 (.o1 (.fld 0) (.t 1))))), true)] (.c2 (.bin .lss) (.t 4) (.c (.int .i64 200)))),
 (.chk [] (.c3 .pick (.o2 (.bin .lss) (.t 4) (.o1 .len (.o1 .ld1 (.o1 (.fld 0) (.t 1))))) (.o2 (.bin .lss) (.t 4) (.c (.int .i64 200))) (.c (.bool false)))),
 (.set 16 (.o3 .pick (.o2 (.bin .lss) (.t 4) (.o1 .len (.o1 .ld1 (.o1 (.fld 0) (.t 1))))) (.o2 (.bin .lss) (.t 4) (.c (.int .i64 200))) (.c (.bool false))))]) (.cond 16 .skip (.exit 0))) (.seq (.block 1 (.seq (.sts [(.chk [] (.cb 1 [])),
 (.eff [] (some 20) (.box 84) [(.c (.agg #[(.slice none 0 0)]))] []),
 (.set 5 (.t 20))]) (.seq (.sts [(.chk [] (.c1 (.fld 0) (.t 1))),
 (.chk [] (.c1 .ld1 (.o1 (.fld 0) (.t 1)))),
 (.chk [] (.c2 (.idxA 4) (.o1 .ld1 (.o1 (.fld 0) (.t 1))) (.t 4))),
 (.chk [] (.c1 (.fld 3) (.o2 (.idxA 4) (.o1 .ld1 (.o1 (.fld 0) (.t 1))) (.t 4)))),
 (.chk [] (.c1 .ld1 (.o1 (.fld 3) (.o2 (.idxA 4) (.o1 .ld1 (.o1 (.fld 0) (.t 1))) (.t 4))))),
 (.set 27 (.o1 .ld1 (.o1 (.fld 3) (.o2 (.idxA 4) (.o1 .ld1 (.o1 (.fld 0) (.t 1))) (.t 4))))),
 (.eff [] (some 28) (.call 23) [(.t 5), (.t 27)] []),
 (.set 6 (.t 28))]) (.sts [(.chk [] (.c1 (.fld 0) (.t 3))),
 (.chk [] (.c1 .ld1 (.o1 (.fld 0) (.t 3)))),
 (.chk [] (.c1 (.fld 0) (.t 1))),
 (.chk [] (.c1 .ld1 (.o1 (.fld 0) (.t 1)))),
 (.chk [] (.c2 (.idxA 4) (.o1 .ld1 (.o1 (.fld 0) (.t 1))) (.t 4))),
 (.chk [] (.c1 (.fld 0) (.o2 (.idxA 4) (.o1 .ld1 (.o1 (.fld 0) (.t 1))) (.t 4)))),
 (.chk [] (.c1 (.ldn 3) (.o1 (.fld 0) (.o2 (.idxA 4) (.o1 .ld1 (.o1 (.fld 0) (.t 1))) (.t 4))))),
 (.set 37 (.o1 (.ldn 3) (.o1 (.fld 0) (.o2 (.idxA 4) (.o1 .ld1 (.o1 (.fld 0) (.t 1))) (.t 4))))),
 (.set 36 (.o1 (.fld 0) (.o2 (.idxA 4) (.o1 .ld1 (.o1 (.fld 0) (.t 1))) (.t 4)))),
 (.set 30 (.o1 .ld1 (.o1 (.fld 0) (.t 3)))),
 (.eff [] (some 38) (.call 24) [(.t 5), (.t 37), (.c (.bool false))] [([], ((.o1 (.fld 0) (.t 3)), none))]),
 (.chk [] (.cb 4 [(0, (3, (.t 38))), (3, (1, (.t 6)))])),
 (.eff [] (some 41) (.bsl 48 4 1 [(str []), (.slice none 0 0), (.int .i64 0), (.slice none 0 0)] [0]) [(.o2 (.put 3 1) (.o2 (.put 0 3) (.c (.agg #[(str []), (.slice none 0 0), (.int .i64 0), (.slice none 0 0)])) (.t 38)) (.t 6))] [([], ((.o1 (.fld 0) (.t 3)), none))]),
 (.eff [] (some 42) (.app 48 4 72 [(str []), (.slice none 0 0), (.int .i64 0), (.slice none 0 0)]) [(.t 30), (.t 41)] []),
 (.chk [] (.c1 (.fld 0) (.t 3))),
 (.eff [] none (.store 1) [(.o1 (.fld 0) (.t 3)), (.t 42)] [])])))) (.sts [(.chk [] (.c2 (.bin .add) (.t 4) (.c (.int .i64 1)))),
 (.set 18 (.o2 (.bin .add) (.t 4) (.c (.int .i64 1)))),
 (.set 4 (.t 18))])))
def klRight_S : S :=
 (.seq (.sts [(.eff [] (some 1) (.box 24) [(.t 0)] []),
 (.eff [] (some 2) (.alloc 24 #[(.slice none 0 0)]) [] [])]) (.seq (.sts [(.chk [] (.cb 1 [])),
 (.eff [] (some 3) (.alloc 24 #[(.slice none 0 0)]) [] []),
 (.eff [] none (.store 1) [(.t 3), (.c (.agg #[(.slice none 0 0)]))] [])]) (.seq (.seq (.sts [(.set 4 (.c (.int .i64 0)))]) (.block 0 (.loop klRight_L1))) (.seq (.sts [(.chk [] (.c1 (.ldn 1) (.t 3))),
 (.set 44 (.o1 (.ldn 1) (.t 3))),
 (.eff [] none (.store 1) [(.t 2), (.t 44)] [])]) .ret))))
def klRight_E : Res := [((some (.c1 (.ldn 1) (.t 2))), (.o1 (.ldn 1) (.t 2)))]
theorem klRight_C : Try.f7.body.bind (comp Try.prog klRight_M Try.f7.ntmps) = some klRight_S := by kernel_rfl
theorem klRight_R : resE Try.prog klRight_M Try.f7.results.toList = some klRight_E := by kernel_rfl
theorem klRight_H (G : Ctr) (hG : GOk Try.prog G) (a0 : Value) {h : H} {K : Value → H → Prop} {KP : List PanicEntry → H → Prop} (Hw : wpS G klRight_S (retQ klRight_E (callK K KP)) (envOf 0 [a0] env0) h) : HCX Try.prog 7 [a0] h K KP :=
  .inl ⟨by kernel_rfl, hc_of mixed hG Try.func7 klRight_C klRight_R (of_decide_eq_true (by kernel_rfl)) Hw⟩
def klGiven_M : Nat → Bool := fun i => Nat.testBit 8253 i
def klGiven_L1 : S :=
 (.seq (.seq (.sts [(.chk [] (.c1 .len (.t 0))),
 (.chk [] (.c2 (.bin .lss) (.t 4) (.o1 .len (.t 0)))),
 (.chk [((.o2 (.bin .lss) (.t 4) (.o1 .len (.t 0))), true)] (.c2 (.bin .lss) (.t 4) (.c (.int .i64 4096)))),
 (.chk [] (.c3 .pick (.o2 (.bin .lss) (.t 4) (.o1 .len (.t 0))) (.o2 (.bin .lss) (.t 4) (.c (.int .i64 4096))) (.c (.bool false)))),
 (.set 13 (.o3 .pick (.o2 (.bin .lss) (.t 4) (.o1 .len (.t 0))) (.o2 (.bin .lss) (.t 4) (.c (.int .i64 4096))) (.c (.bool false))))]) (.cond 13 .skip (.exit 0))) (.seq (.block 1 (.seq (.sts [(.chk [] (.cb 1 [])),
 (.eff [] (some 17) (.box 84) [(.c (.agg #[(.slice none 0 0)]))] []),
 (.set 5 (.t 17))]) (.sts [(.chk [] (.c2 (.idxA 3) (.t 0) (.t 4))),
 (.chk [] (.c1 (.ldn 3) (.o2 (.idxA 3) (.t 0) (.t 4)))),
 (.set 23 (.o1 (.ldn 3) (.o2 (.idxA 3) (.t 0) (.t 4)))),
 (.eff [] (some 24) (.call 24) [(.t 5), (.t 23), (.c (.bool false))] []),
 (.eff [] (some 25) (.bsl 45 3 1 [(str []), (.slice none 0 0), (.int .i64 0)] [0]) [(.t 24)] []),
 (.eff [] (some 26) (.app 45 3 48 [(str []), (.slice none 0 0), (.int .i64 0)]) [(.t 3), (.t 25)] []),
 (.set 3 (.t 26))]))) (.sts [(.chk [] (.c2 (.bin .add) (.t 4) (.c (.int .i64 1)))),
 (.set 15 (.o2 (.bin .add) (.t 4) (.c (.int .i64 1)))),
 (.set 4 (.t 15))])))
def klGiven_S : S :=
 (.seq (.sts [(.set 2 (.c (.slice none 0 0)))]) (.seq (.sts [(.set 3 (.c (.slice none 0 0)))]) (.seq (.seq (.sts [(.set 4 (.c (.int .i64 0)))]) (.block 0 (.loop klGiven_L1))) (.seq (.sts [(.set 2 (.t 3))]) .ret))))
def klGiven_E : Res := [(none, (.t 2))]
theorem klGiven_C : Try.f8.body.bind (comp Try.prog klGiven_M Try.f8.ntmps) = some klGiven_S := by kernel_rfl
theorem klGiven_R : resE Try.prog klGiven_M Try.f8.results.toList = some klGiven_E := by kernel_rfl
theorem klGiven_H (G : Ctr) (hG : GOk Try.prog G) (a0 : Value) {h : H} {K : Value → H → Prop} {KP : List PanicEntry → H → Prop} (Hw : wpS G klGiven_S (retQ klGiven_E (callK K KP)) (envOf 0 [a0] env0) h) : HCX Try.prog 8 [a0] h K KP :=
  .inl ⟨by kernel_rfl, hc_of mixed hG Try.func8 klGiven_C klGiven_R (of_decide_eq_true (by kernel_rfl)) Hw⟩
end Go.Proofs.Ytkobamedfbgjbaa
