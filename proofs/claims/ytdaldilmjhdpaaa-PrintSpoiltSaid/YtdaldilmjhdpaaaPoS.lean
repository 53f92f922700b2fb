/- The small statements of functions of the program, as the closed computation gives them (written by a program of ours; checked by the kernel below). -/
import Derived.Test.YtdaldilmjhdpaaaEvB
import Derived.Test.YtdaldilmjhdpaaaProg
import Derived.KernelRfl
import Derived.Test.YtdaldilmjhdpaaaKpS
namespace Go.Proofs.Ytdaldilmjhdpaaa
open Go Go.Ev
def poMod_M : Nat → Bool := fun i => Nat.testBit 1075 i
def poMod_S : S :=
  (.seq (.sts [(.set 4 (.c (.int .i64 0)))]) (.seq (.sts [(.chk [] (.c2 (.bin .rem) (.t 0) (.t 1))),
    (.set 5 (.o2 (.bin .rem) (.t 0) (.t 1)))]) (.seq (.seq (.sts [(.chk [] (.c2 (.bin .lss) (.t 5) (.c (.int .i64 0)))),
    (.set 10 (.o2 (.bin .lss) (.t 5) (.c (.int .i64 0))))]) (.cond 10 (.sts [(.chk [] (.c2 (.bin .add) (.t 5) (.t 1))),
    (.set 13 (.o2 (.bin .add) (.t 5) (.t 1))),
    (.set 5 (.t 13))]) .skip)) (.seq (.sts [(.set 4 (.t 5))]) .ret))))
def poMod_E : Res := [(none, (.t 4))]
theorem poMod_C : Try.f7.body.bind (comp Try.prog poMod_M Try.f7.ntmps) = some poMod_S := by kernel_rfl
theorem poMod_R : resE Try.prog poMod_M Try.f7.results.toList = some poMod_E := by kernel_rfl
theorem poMod_H (G : Ctr) (hG : GOk Try.prog G) (a0 : Value) (a1 : Value) {h : H} {K : Value → H → Prop} {KP : List PanicEntry → H → Prop} (Hw : wpS G poMod_S (retQ poMod_E (callK K KP)) (envOf 0 [a0, a1] env0) h) : HCX Try.prog 7 [a0, a1] h K KP :=
  .inl ⟨by kernel_rfl, hc_of mixed hG Try.func7 poMod_C poMod_R (of_decide_eq_true (by kernel_rfl)) Hw⟩
def poWord_M : Nat → Bool := fun i => Nat.testBit 9007199321850611 i
def poWord_L1 : S :=
  (.seq (.seq (.sts [(.chk [] (.c1 .lens (.t 0))),
    (.chk [] (.c2 (.bin .lss) (.t 6) (.o1 .lens (.t 0)))),
    (.chk [((.o2 (.bin .lss) (.t 6) (.o1 .lens (.t 0))), true)] (.c2 (.bin .lss) (.t 6) (.c (.int .i64 64)))),
    (.chk [] (.c3 .pick (.o2 (.bin .lss) (.t 6) (.o1 .lens (.t 0))) (.o2 (.bin .lss) (.t 6) (.c (.int .i64 64))) (.c (.bool false)))),
    (.set 26 (.o3 .pick (.o2 (.bin .lss) (.t 6) (.o1 .lens (.t 0))) (.o2 (.bin .lss) (.t 6) (.c (.int .i64 64))) (.c (.bool false))))]) (.cond 26 .skip (.exit 0))) (.seq (.block 1 (.seq (.sts [(.chk [] (.c2 .idxS (.t 0) (.t 6))),
    (.set 7 (.o2 .idxS (.t 0) (.t 6)))]) (.seq (.sts [(.chk [] (.c2 (.bin .geq) (.t 7) (.c (.int .u8 97)))),
    (.chk [((.o2 (.bin .geq) (.t 7) (.c (.int .u8 97))), true)] (.c2 (.bin .leq) (.t 7) (.c (.int .u8 122)))),
    (.chk [] (.c3 .pick (.o2 (.bin .geq) (.t 7) (.c (.int .u8 97))) (.o2 (.bin .leq) (.t 7) (.c (.int .u8 122))) (.c (.bool false)))),
    (.chk [((.o3 .pick (.o2 (.bin .geq) (.t 7) (.c (.int .u8 97))) (.o2 (.bin .leq) (.t 7) (.c (.int .u8 122))) (.c (.bool false))), false)] (.c2 (.bin .geq) (.t 7) (.c (.int .u8 65)))),
    (.chk [((.o2 (.bin .geq) (.t 7) (.c (.int .u8 65))), true), ((.o3 .pick (.o2 (.bin .geq) (.t 7) (.c (.int .u8 97))) (.o2 (.bin .leq) (.t 7) (.c (.int .u8 122))) (.c (.bool false))), false)] (.c2 (.bin .leq) (.t 7) (.c (.int .u8 90)))),
    (.chk [((.o3 .pick (.o2 (.bin .geq) (.t 7) (.c (.int .u8 97))) (.o2 (.bin .leq) (.t 7) (.c (.int .u8 122))) (.c (.bool false))), false)] (.c3 .pick (.o2 (.bin .geq) (.t 7) (.c (.int .u8 65))) (.o2 (.bin .leq) (.t 7) (.c (.int .u8 90))) (.c (.bool false)))),
    (.chk [] (.c3 .pick (.o3 .pick (.o2 (.bin .geq) (.t 7) (.c (.int .u8 97))) (.o2 (.bin .leq) (.t 7) (.c (.int .u8 122))) (.c (.bool false))) (.c (.bool true)) (.o3 .pick (.o2 (.bin .geq) (.t 7) (.c (.int .u8 65))) (.o2 (.bin .leq) (.t 7) (.c (.int .u8 90))) (.c (.bool false))))),
    (.chk [((.o3 .pick (.o3 .pick (.o2 (.bin .geq) (.t 7) (.c (.int .u8 97))) (.o2 (.bin .leq) (.t 7) (.c (.int .u8 122))) (.c (.bool false))) (.c (.bool true)) (.o3 .pick (.o2 (.bin .geq) (.t 7) (.c (.int .u8 65))) (.o2 (.bin .leq) (.t 7) (.c (.int .u8 90))) (.c (.bool false)))), false)] (.c2 (.bin .geq) (.t 7) (.c (.int .u8 48)))),
    (.chk [((.o2 (.bin .geq) (.t 7) (.c (.int .u8 48))), true), ((.o3 .pick (.o3 .pick (.o2 (.bin .geq) (.t 7) (.c (.int .u8 97))) (.o2 (.bin .leq) (.t 7) (.c (.int .u8 122))) (.c (.bool false))) (.c (.bool true)) (.o3 .pick (.o2 (.bin .geq) (.t 7) (.c (.int .u8 65))) (.o2 (.bin .leq) (.t 7) (.c (.int .u8 90))) (.c (.bool false)))), false)] (.c2 (.bin .leq) (.t 7) (.c (.int .u8 57)))),
    (.chk [((.o3 .pick (.o3 .pick (.o2 (.bin .geq) (.t 7) (.c (.int .u8 97))) (.o2 (.bin .leq) (.t 7) (.c (.int .u8 122))) (.c (.bool false))) (.c (.bool true)) (.o3 .pick (.o2 (.bin .geq) (.t 7) (.c (.int .u8 65))) (.o2 (.bin .leq) (.t 7) (.c (.int .u8 90))) (.c (.bool false)))), false)] (.c3 .pick (.o2 (.bin .geq) (.t 7) (.c (.int .u8 48))) (.o2 (.bin .leq) (.t 7) (.c (.int .u8 57))) (.c (.bool false)))),
    (.chk [] (.c3 .pick (.o3 .pick (.o3 .pick (.o2 (.bin .geq) (.t 7) (.c (.int .u8 97))) (.o2 (.bin .leq) (.t 7) (.c (.int .u8 122))) (.c (.bool false))) (.c (.bool true)) (.o3 .pick (.o2 (.bin .geq) (.t 7) (.c (.int .u8 65))) (.o2 (.bin .leq) (.t 7) (.c (.int .u8 90))) (.c (.bool false)))) (.c (.bool true)) (.o3 .pick (.o2 (.bin .geq) (.t 7) (.c (.int .u8 48))) (.o2 (.bin .leq) (.t 7) (.c (.int .u8 57))) (.c (.bool false))))),
    (.set 53 (.o3 .pick (.o3 .pick (.o3 .pick (.o2 (.bin .geq) (.t 7) (.c (.int .u8 97))) (.o2 (.bin .leq) (.t 7) (.c (.int .u8 122))) (.c (.bool false))) (.c (.bool true)) (.o3 .pick (.o2 (.bin .geq) (.t 7) (.c (.int .u8 65))) (.o2 (.bin .leq) (.t 7) (.c (.int .u8 90))) (.c (.bool false)))) (.c (.bool true)) (.o3 .pick (.o2 (.bin .geq) (.t 7) (.c (.int .u8 48))) (.o2 (.bin .leq) (.t 7) (.c (.int .u8 57))) (.c (.bool false)))))]) (.cond 53 (.sts [(.eff [] (some 56) (.bsl 5 1 1 [(.int .u8 0)] [0]) [(.t 7)] []),
    (.eff [] (some 57) (.app 5 1 1 [(.int .u8 0)]) [(.t 5), (.t 56)] []),
    (.set 5 (.t 57))]) (.sts [(.eff [] (some 59) (.bsl 5 1 1 [(.int .u8 0)] [0]) [(.c (.int .u8 95))] []),
    (.eff [] (some 60) (.app 5 1 1 [(.int .u8 0)]) [(.t 5), (.t 59)] []),
    (.set 5 (.t 60))]))))) (.sts [(.chk [] (.c2 (.bin .add) (.t 6) (.c (.int .i64 1)))),
    (.set 28 (.o2 (.bin .add) (.t 6) (.c (.int .i64 1)))),
    (.set 6 (.t 28))])))
def poWord_S : S :=
  (.seq (.sts [(.set 4 (.c (str [])))]) (.seq (.seq (.sts [(.chk [] (.c2 (.bin .eql) (.t 0) (.c (str [])))),
    (.set 9 (.o2 (.bin .eql) (.t 0) (.c (str []))))]) (.cond 9 (.seq (.sts [(.eff [] (some 11) (.bsl 5 1 1 [(.int .u8 0)] [0]) [(.t 1)] []),
    (.eff [] (some 12) .b2s [(.t 11)] []),
    (.set 4 (.t 12))]) .ret) .skip)) (.seq (.sts [(.chk [] (.c2 .idxS (.t 0) (.c (.int .i64 0)))),
    (.chk [] (.c2 (.bin .rem) (.o2 .idxS (.t 0) (.c (.int .i64 0))) (.c (.int .u8 26)))),
    (.chk [] (.c2 (.bin .add) (.t 1) (.o2 (.bin .rem) (.o2 .idxS (.t 0) (.c (.int .i64 0))) (.c (.int .u8 26))))),
    (.eff [] (some 18) (.bsl 5 1 1 [(.int .u8 0)] [0]) [(.o2 (.bin .add) (.t 1) (.o2 (.bin .rem) (.o2 .idxS (.t 0) (.c (.int .i64 0))) (.c (.int .u8 26))))] []),
    (.set 5 (.t 18))]) (.seq (.seq (.sts [(.set 6 (.c (.int .i64 1)))]) (.block 0 (.loop poWord_L1))) (.seq (.sts [(.eff [] (some 62) .b2s [(.t 5)] []),
    (.set 4 (.t 62))]) .ret)))))
def poWord_E : Res := [(none, (.t 4))]
theorem poWord_C : Try.f20.body.bind (comp Try.prog poWord_M Try.f20.ntmps) = some poWord_S := by kernel_rfl
theorem poWord_R : resE Try.prog poWord_M Try.f20.results.toList = some poWord_E := by kernel_rfl
theorem poWord_H (G : Ctr) (hG : GOk Try.prog G) (a0 : Value) (a1 : Value) {h : H} {K : Value → H → Prop} {KP : List PanicEntry → H → Prop} (Hw : wpS G poWord_S (retQ poWord_E (callK K KP)) (envOf 0 [a0, a1] env0) h) : HCX Try.prog 20 [a0, a1] h K KP :=
  .inl ⟨by kernel_rfl, hc_of mixed hG Try.func20 poWord_C poWord_R (of_decide_eq_true (by kernel_rfl)) Hw⟩
def poName_M : Nat → Bool := fun i => Nat.testBit 141 i
def poName_S : S :=
  (.seq (.sts [(.set 2 (.c (str [])))]) (.seq (.sts [(.eff [] (some 5) (.call 20) [(.t 0), (.c (.int .u8 97))] []),
    (.set 3 (.t 5))]) (.seq (.seq (.sts [(.chk [] (.c2 (.bin .eql) (.t 3) (.c (str [110, 111, 116])))),
    (.set 7 (.o2 (.bin .eql) (.t 3) (.c (str [110, 111, 116]))))]) (.cond 7 (.seq (.sts [(.set 2 (.c (str [110, 111, 116, 101])))]) .ret) .skip)) (.seq (.sts [(.set 2 (.t 3))]) .ret))))
def poName_E : Res := [(none, (.t 2))]
theorem poName_C : Try.f11.body.bind (comp Try.prog poName_M Try.f11.ntmps) = some poName_S := by kernel_rfl
theorem poName_R : resE Try.prog poName_M Try.f11.results.toList = some poName_E := by kernel_rfl
theorem poName_H (G : Ctr) (hG : GOk Try.prog G) (a0 : Value) {h : H} {K : Value → H → Prop} {KP : List PanicEntry → H → Prop} (Hw : wpS G poName_S (retQ poName_E (callK K KP)) (envOf 0 [a0] env0) h) : HCX Try.prog 11 [a0] h K KP :=
  .inl ⟨by kernel_rfl, hc_of mixed hG Try.func11 poName_C poName_R (of_decide_eq_true (by kernel_rfl)) Hw⟩
def poVar_M : Nat → Bool := fun i => Nat.testBit 32837 i
def poVar_S : S :=
  (.seq (.sts [(.set 2 (.c (str [])))]) (.seq (.seq (.sts [(.chk [] (.c1 .lens (.t 0))),
    (.chk [] (.c2 (.bin .rem) (.o1 .lens (.t 0)) (.c (.int .i64 5)))),
    (.chk [] (.c2 (.bin .eql) (.o2 (.bin .rem) (.o1 .lens (.t 0)) (.c (.int .i64 5))) (.c (.int .i64 1)))),
    (.set 6 (.o2 (.bin .eql) (.o2 (.bin .rem) (.o1 .lens (.t 0)) (.c (.int .i64 5))) (.c (.int .i64 1))))]) (.cond 6 (.seq (.sts [(.set 2 (.c (str [95])))]) .ret) .skip)) (.seq (.seq (.sts [(.chk [] (.c1 .lens (.t 0))),
    (.chk [] (.c2 (.bin .rem) (.o1 .lens (.t 0)) (.c (.int .i64 5)))),
    (.chk [] (.c2 (.bin .eql) (.o2 (.bin .rem) (.o1 .lens (.t 0)) (.c (.int .i64 5))) (.c (.int .i64 2)))),
    (.chk [((.o2 (.bin .eql) (.o2 (.bin .rem) (.o1 .lens (.t 0)) (.c (.int .i64 5))) (.c (.int .i64 2))), true)] (.c1 .lens (.t 0))),
    (.chk [((.o2 (.bin .eql) (.o2 (.bin .rem) (.o1 .lens (.t 0)) (.c (.int .i64 5))) (.c (.int .i64 2))), true)] (.c2 (.bin .lss) (.o1 .lens (.t 0)) (.c (.int .i64 64)))),
    (.chk [] (.c3 .pick (.o2 (.bin .eql) (.o2 (.bin .rem) (.o1 .lens (.t 0)) (.c (.int .i64 5))) (.c (.int .i64 2))) (.o2 (.bin .lss) (.o1 .lens (.t 0)) (.c (.int .i64 64))) (.c (.bool false)))),
    (.set 15 (.o3 .pick (.o2 (.bin .eql) (.o2 (.bin .rem) (.o1 .lens (.t 0)) (.c (.int .i64 5))) (.c (.int .i64 2))) (.o2 (.bin .lss) (.o1 .lens (.t 0)) (.c (.int .i64 64))) (.c (.bool false))))]) (.cond 15 (.seq (.sts [(.eff [] (some 17) (.call 20) [(.t 0), (.c (.int .u8 65))] []),
    (.chk [] (.c2 (.bin .add) (.c (str [95])) (.t 17))),
    (.set 2 (.o2 (.bin .add) (.c (str [95])) (.t 17)))]) .ret) .skip)) (.seq (.sts [(.eff [] (some 20) (.call 20) [(.t 0), (.c (.int .u8 65))] []),
    (.set 2 (.t 20))]) .ret))))
def poVar_E : Res := [(none, (.t 2))]
theorem poVar_C : Try.f21.body.bind (comp Try.prog poVar_M Try.f21.ntmps) = some poVar_S := by kernel_rfl
theorem poVar_R : resE Try.prog poVar_M Try.f21.results.toList = some poVar_E := by kernel_rfl
theorem poVar_H (G : Ctr) (hG : GOk Try.prog G) (a0 : Value) {h : H} {K : Value → H → Prop} {KP : List PanicEntry → H → Prop} (Hw : wpS G poVar_S (retQ poVar_E (callK K KP)) (envOf 0 [a0] env0) h) : HCX Try.prog 21 [a0] h K KP :=
  .inl ⟨by kernel_rfl, hc_of mixed hG Try.func21 poVar_C poVar_R (of_decide_eq_true (by kernel_rfl)) Hw⟩
def poCon_M : Nat → Bool := fun i => Nat.testBit 9031 i
def poCon_S : S :=
  (.seq (.sts [(.eff [] (some 6) (.alloc 63 #[(.int .i64 0), (.int .i64 0), (str [])]) [] [])]) (.seq (.seq (.sts [(.eff [] (some 8) (.call 7) [(.t 0), (.c (.int .i64 3))] [])]) (.block 0 (.seq (.sts [(.chk [] (.c2 (.bin .eql) (.t 8) (.c (.int .i64 0)))),
    (.set 9 (.o2 (.bin .eql) (.t 8) (.c (.int .i64 0))))]) (.cond 9 (.seq (.sts [(.chk [] (.cb 3 [(0, (1, (.c (.int .i64 1)))), (1, (1, (.t 1)))])),
    (.eff [] none (.store 3) [(.t 6), (.o2 (.put 1 1) (.o2 (.put 0 1) (.c (.agg #[(.int .i64 0), (.int .i64 0), (str [])])) (.c (.int .i64 1))) (.t 1))] [])]) .ret) (.seq (.sts [(.chk [] (.c2 (.bin .eql) (.t 8) (.c (.int .i64 1)))),
    (.set 13 (.o2 (.bin .eql) (.t 8) (.c (.int .i64 1))))]) (.cond 13 (.seq (.sts [(.eff [] (some 16) (.call 11) [(.t 2)] []),
    (.chk [] (.cb 3 [(0, (1, (.c (.int .i64 2)))), (2, (1, (.t 16)))])),
    (.eff [] none (.store 3) [(.t 6), (.o2 (.put 2 1) (.o2 (.put 0 1) (.c (.agg #[(.int .i64 0), (.int .i64 0), (str [])])) (.c (.int .i64 2))) (.t 16))] [])]) .ret) .skip)))))) (.seq (.sts [(.chk [] (.c1 .lens (.t 2))),
    (.chk [] (.c2 (.mm false) (.c (.int .i64 255)) (.o1 .lens (.t 2)))),
    (.chk [] (.c2 .subHi (.t 2) (.o2 (.mm false) (.c (.int .i64 255)) (.o1 .lens (.t 2))))),
    (.chk [] (.cb 3 [(0, (1, (.c (.int .i64 3)))), (2, (1, (.o2 .subHi (.t 2) (.o2 (.mm false) (.c (.int .i64 255)) (.o1 .lens (.t 2))))))])),
    (.eff [] none (.store 3) [(.t 6), (.o2 (.put 2 1) (.o2 (.put 0 1) (.c (.agg #[(.int .i64 0), (.int .i64 0), (str [])])) (.c (.int .i64 3))) (.o2 .subHi (.t 2) (.o2 (.mm false) (.c (.int .i64 255)) (.o1 .lens (.t 2)))))] [])]) .ret)))
def poCon_E : Res := [((some (.c1 (.ldn 3) (.t 6))), (.o1 (.ldn 3) (.t 6)))]
theorem poCon_C : Try.f22.body.bind (comp Try.prog poCon_M Try.f22.ntmps) = some poCon_S := by kernel_rfl
theorem poCon_R : resE Try.prog poCon_M Try.f22.results.toList = some poCon_E := by kernel_rfl
theorem poCon_H (G : Ctr) (hG : GOk Try.prog G) (a0 : Value) (a1 : Value) (a2 : Value) {h : H} {K : Value → H → Prop} {KP : List PanicEntry → H → Prop} (Hw : wpS G poCon_S (retQ poCon_E (callK K KP)) (envOf 0 [a0, a1, a2] env0) h) : HCX Try.prog 22 [a0, a1, a2] h K KP :=
  .inl ⟨by kernel_rfl, hc_of mixed hG Try.func22 poCon_C poCon_R (of_decide_eq_true (by kernel_rfl)) Hw⟩
def poTerm_M : Nat → Bool := fun i => Nat.testBit 143 i
def poTerm_S : S :=
  (.seq (.sts [(.eff [] (some 1) (.box 43) [(.t 0)] []),
    (.eff [] (some 2) (.alloc 43 #[(.int .i64 0), (.int .i64 0), (str []), (.int .i64 0)]) [] [])]) (.seq (.seq (.sts [(.chk [] (.c1 (.fld 0) (.t 1))),
    (.chk [] (.c1 .ld1 (.o1 (.fld 0) (.t 1)))),
    (.set 5 (.o1 .ld1 (.o1 (.fld 0) (.t 1)))),
    (.eff [] (some 6) (.call 7) [(.t 5), (.c (.int .i64 4))] []),
    (.chk [] (.c2 (.bin .eql) (.t 6) (.c (.int .i64 0)))),
    (.set 7 (.o2 (.bin .eql) (.t 6) (.c (.int .i64 0))))]) (.cond 7 (.seq (.sts [(.chk [] (.c1 (.fld 2) (.t 1))),
    (.chk [] (.c1 .ld1 (.o1 (.fld 2) (.t 1)))),
    (.chk [] (.c1 (.fld 3) (.t 1))),
    (.chk [] (.c1 .ld1 (.o1 (.fld 3) (.t 1)))),
    (.set 12 (.o1 .ld1 (.o1 (.fld 3) (.t 1)))),
    (.set 9 (.o1 .ld1 (.o1 (.fld 2) (.t 1)))),
    (.eff [] (some 10) (.call 21) [(.t 9)] [([], ((.o1 (.fld 3) (.t 1)), none))]),
    (.chk [] (.cb 4 [(0, (1, (.c (.int .i64 4)))), (2, (1, (.t 10))), (3, (1, (.t 12)))])),
    (.eff [] none (.store 4) [(.t 2), (.o2 (.put 3 1) (.o2 (.put 2 1) (.o2 (.put 0 1) (.c (.agg #[(.int .i64 0), (.int .i64 0), (str []), (.int .i64 0)])) (.c (.int .i64 4))) (.t 10)) (.t 12))] [])]) .ret) .skip)) (.seq (.sts [(.chk [] (.c1 (.fld 0) (.t 1))),
    (.chk [] (.c1 .ld1 (.o1 (.fld 0) (.t 1)))),
    (.chk [] (.c1 (.fld 1) (.t 1))),
    (.chk [] (.c1 .ld1 (.o1 (.fld 1) (.t 1)))),
    (.chk [] (.c1 (.fld 2) (.t 1))),
    (.chk [] (.c1 .ld1 (.o1 (.fld 2) (.t 1)))),
    (.set 19 (.o1 .ld1 (.o1 (.fld 2) (.t 1)))),
    (.set 17 (.o1 .ld1 (.o1 (.fld 1) (.t 1)))),
    (.set 15 (.o1 .ld1 (.o1 (.fld 0) (.t 1)))),
    (.eff [] (some 20) (.call 22) [(.t 15), (.t 17), (.t 19)] []),
    (.eff [] (some 3) (.alloc 63 #[(.int .i64 0), (.int .i64 0), (str [])]) [] []),
    (.eff [] none (.store 3) [(.t 3), (.t 20)] [])]) (.seq (.sts [(.chk [] (.c1 (.fld 0) (.t 3))),
    (.chk [] (.c1 .ld1 (.o1 (.fld 0) (.t 3)))),
    (.chk [] (.c1 (.fld 1) (.t 3))),
    (.chk [] (.c1 .ld1 (.o1 (.fld 1) (.t 3)))),
    (.chk [] (.c1 (.fld 2) (.t 3))),
    (.chk [] (.c1 .ld1 (.o1 (.fld 2) (.t 3)))),
    (.chk [] (.c1 (.fld 3) (.t 1))),
    (.chk [] (.c1 .ld1 (.o1 (.fld 3) (.t 1)))),
    (.chk [] (.cb 4 [(0, (1, (.o1 .ld1 (.o1 (.fld 0) (.t 3))))), (1, (1, (.o1 .ld1 (.o1 (.fld 1) (.t 3))))), (2, (1, (.o1 .ld1 (.o1 (.fld 2) (.t 3))))), (3, (1, (.o1 .ld1 (.o1 (.fld 3) (.t 1)))))])),
    (.set 29 (.o2 (.put 3 1) (.o2 (.put 2 1) (.o2 (.put 1 1) (.o2 (.put 0 1) (.c (.agg #[(.int .i64 0), (.int .i64 0), (str []), (.int .i64 0)])) (.o1 .ld1 (.o1 (.fld 0) (.t 3)))) (.o1 .ld1 (.o1 (.fld 1) (.t 3)))) (.o1 .ld1 (.o1 (.fld 2) (.t 3)))) (.o1 .ld1 (.o1 (.fld 3) (.t 1))))),
    (.eff [] none (.store 4) [(.t 2), (.t 29)] [])]) .ret))))
def poTerm_E : Res := [((some (.c1 (.ldn 4) (.t 2))), (.o1 (.ldn 4) (.t 2)))]
theorem poTerm_C : Try.f12.body.bind (comp Try.prog poTerm_M Try.f12.ntmps) = some poTerm_S := by kernel_rfl
theorem poTerm_R : resE Try.prog poTerm_M Try.f12.results.toList = some poTerm_E := by kernel_rfl
theorem poTerm_H (G : Ctr) (hG : GOk Try.prog G) (a0 : Value) {h : H} {K : Value → H → Prop} {KP : List PanicEntry → H → Prop} (Hw : wpS G poTerm_S (retQ poTerm_E (callK K KP)) (envOf 0 [a0] env0) h) : HCX Try.prog 12 [a0] h K KP :=
  .inl ⟨by kernel_rfl, hc_of mixed hG Try.func12 poTerm_C poTerm_R (of_decide_eq_true (by kernel_rfl)) Hw⟩
def poMade_M : Nat → Bool := fun i => Nat.testBit 524319 i
def poMade_L1 : S :=
  (.seq (.seq (.sts [(.chk [] (.c1 (.fld 1) (.t 1))),
    (.chk [] (.c1 .ld1 (.o1 (.fld 1) (.t 1)))),
    (.chk [] (.c1 .len (.o1 .ld1 (.o1 (.fld 1) (.t 1))))),
    (.chk [] (.c2 (.bin .lss) (.t 4) (.o1 .len (.o1 .ld1 (.o1 (.fld 1) (.t 1)))))),
    (.chk [((.o2 (.bin .lss) (.t 4) (.o1 .len (.o1 .ld1 (.o1 (.fld 1) (.t 1))))), true)] (.c2 (.bin .lss) (.t 4) (.c (.int .i64 8)))),
    (.chk [] (.c3 .pick (.o2 (.bin .lss) (.t 4) (.o1 .len (.o1 .ld1 (.o1 (.fld 1) (.t 1))))) (.o2 (.bin .lss) (.t 4) (.c (.int .i64 8))) (.c (.bool false)))),
    (.set 19 (.o3 .pick (.o2 (.bin .lss) (.t 4) (.o1 .len (.o1 .ld1 (.o1 (.fld 1) (.t 1))))) (.o2 (.bin .lss) (.t 4) (.c (.int .i64 8))) (.c (.bool false))))]) (.cond 19 .skip (.exit 0))) (.seq (.block 1 (.sts [(.chk [] (.c1 (.fld 1) (.t 3))),
    (.chk [] (.c1 .ld1 (.o1 (.fld 1) (.t 3)))),
    (.chk [] (.c1 (.fld 1) (.t 1))),
    (.chk [] (.c1 .ld1 (.o1 (.fld 1) (.t 1)))),
    (.chk [] (.c2 (.idxA 4) (.o1 .ld1 (.o1 (.fld 1) (.t 1))) (.t 4))),
    (.chk [] (.c1 (.ldn 4) (.o2 (.idxA 4) (.o1 .ld1 (.o1 (.fld 1) (.t 1))) (.t 4)))),
    (.set 28 (.o1 (.ldn 4) (.o2 (.idxA 4) (.o1 .ld1 (.o1 (.fld 1) (.t 1))) (.t 4)))),
    (.set 27 (.o2 (.idxA 4) (.o1 .ld1 (.o1 (.fld 1) (.t 1))) (.t 4))),
    (.set 23 (.o1 .ld1 (.o1 (.fld 1) (.t 3)))),
    (.eff [] (some 29) (.call 12) [(.t 28)] [([], ((.o1 (.fld 1) (.t 3)), none))]),
    (.eff [] (some 30) (.bsl 43 4 1 [(.int .i64 0), (.int .i64 0), (str []), (.int .i64 0)] [0]) [(.t 29)] [([], ((.o1 (.fld 1) (.t 3)), none))]),
    (.eff [] (some 31) (.app 43 4 40 [(.int .i64 0), (.int .i64 0), (str []), (.int .i64 0)]) [(.t 23), (.t 30)] []),
    (.chk [] (.c1 (.fld 1) (.t 3))),
    (.eff [] none (.store 1) [(.o1 (.fld 1) (.t 3)), (.t 31)] [])])) (.sts [(.chk [] (.c2 (.bin .add) (.t 4) (.c (.int .i64 1)))),
    (.set 21 (.o2 (.bin .add) (.t 4) (.c (.int .i64 1)))),
    (.set 4 (.t 21))])))
def poMade_S : S :=
  (.seq (.sts [(.eff [] (some 1) (.box 27) [(.t 0)] []),
    (.eff [] (some 2) (.alloc 27 #[(str []), (.slice none 0 0), (.int .i64 0)]) [] [])]) (.seq (.join (.seq (.sts [(.chk [] (.c1 (.fld 0) (.t 1)))]) (.seq (.sts [(.chk [] (.c1 .ld1 (.o1 (.fld 0) (.t 1))))]) (.seq (.sts [(.chk [] (.c1 (.fld 2) (.t 1)))]) (.seq (.sts [(.chk [] (.c1 .ld1 (.o1 (.fld 2) (.t 1))))]) (.both (.sts [(.set 9 (.o1 .ld1 (.o1 (.fld 2) (.t 1)))),
    (.set 6 (.o1 .ld1 (.o1 (.fld 0) (.t 1)))),
    (.eff [] (some 7) (.call 11) [(.t 6)] [([], ((.o1 (.fld 2) (.t 1)), none))]),
    (.chk [] (.cb 3 [(0, (1, (.t 7))), (2, (1, (.t 9)))])),
    (.eff [] (some 3) (.alloc 27 #[(str []), (.slice none 0 0), (.int .i64 0)]) [] [([], ((.o1 (.fld 2) (.t 1)), none))]),
    (.eff [] none (.store 3) [(.t 3), (.o2 (.put 2 1) (.o2 (.put 0 1) (.c (.agg #[(str []), (.slice none 0 0), (.int .i64 0)])) (.t 7)) (.t 9))] [])]) (.sts [(.set 9 (.o1 .ld1 (.o1 (.fld 2) (.t 1)))),
    (.set 6 (.o1 .ld1 (.o1 (.fld 0) (.t 1)))),
    (.eff [] (some 3) (.alloc 27 #[(str []), (.slice none 0 0), (.int .i64 0)]) [] [([], ((.o1 (.fld 2) (.t 1)), none)), ([], ((.o1 (.fld 0) (.t 1)), none))]),
    (.eff [] (some 7) (.call 11) [(.t 6)] [([], ((.o1 (.fld 2) (.t 1)), none))]),
    (.chk [] (.cb 3 [(0, (1, (.t 7))), (2, (1, (.t 9)))])),
    (.eff [] none (.store 3) [(.t 3), (.o2 (.put 2 1) (.o2 (.put 0 1) (.c (.agg #[(str []), (.slice none 0 0), (.int .i64 0)])) (.t 7)) (.t 9))] [])]))))))) (.seq (.seq (.sts [(.set 4 (.c (.int .i64 0)))]) (.block 0 (.loop poMade_L1))) (.seq (.sts [(.chk [] (.c1 (.ldn 3) (.t 3))),
    (.set 33 (.o1 (.ldn 3) (.t 3))),
    (.eff [] none (.store 3) [(.t 2), (.t 33)] [])]) .ret))))
def poMade_E : Res := [((some (.c1 (.ldn 3) (.t 2))), (.o1 (.ldn 3) (.t 2)))]
theorem poMade_C : Try.f4.body.bind (comp Try.prog poMade_M Try.f4.ntmps) = some poMade_S := by kernel_rfl
theorem poMade_R : resE Try.prog poMade_M Try.f4.results.toList = some poMade_E := by kernel_rfl
theorem poMade_H (G : Ctr) (hG : GOk Try.prog G) (a0 : Value) {h : H} {K : Value → H → Prop} {KP : List PanicEntry → H → Prop} (Hw : wpS G poMade_S (retQ poMade_E (callK K KP)) (envOf 0 [a0] env0) h) : HCX Try.prog 4 [a0] h K KP :=
  .inl ⟨by kernel_rfl, hc_of mixed hG Try.func4 poMade_C poMade_R (of_decide_eq_true (by kernel_rfl)) Hw⟩
def poLit_M : Nat → Bool := fun i => Nat.testBit 2097255 i
def poLit_S : S :=
  (.seq (.sts [(.eff [] (some 1) (.box 49) [(.t 0)] []),
    (.eff [] (some 2) (.alloc 49 #[(.int .i64 0), (str []), (.slice none 0 0), (.int .i64 0), (.int .i64 0), (.int .i64 0), (.int .i64 0), (str []), (.int .i64 0), (.int .i64 0), (.int .i64 0), (str []), (.int .i64 0), (.int .i64 0)]) [] [])]) (.seq (.seq (.sts [(.chk [] (.c1 (.fld 0) (.t 1))),
    (.chk [] (.c1 .ld1 (.o1 (.fld 0) (.t 1)))),
    (.set 4 (.o1 .ld1 (.o1 (.fld 0) (.t 1)))),
    (.eff [] (some 5) (.call 7) [(.t 4), (.c (.int .i64 3))] [])]) (.block 0 (.seq (.sts [(.chk [] (.c2 (.bin .eql) (.t 5) (.c (.int .i64 0)))),
    (.set 6 (.o2 (.bin .eql) (.t 5) (.c (.int .i64 0))))]) (.cond 6 (.seq (.sts [(.chk [] (.c1 (.fld 4) (.t 1))),
    (.chk [] (.c1 .ld1 (.o1 (.fld 4) (.t 1)))),
    (.chk [] (.c1 (.fld 5) (.t 1))),
    (.chk [] (.c1 (.ldn 4) (.o1 (.fld 5) (.t 1)))),
    (.chk [] (.c1 (.fld 9) (.t 1))),
    (.chk [] (.c1 (.ldn 4) (.o1 (.fld 9) (.t 1)))),
    (.chk [] (.c1 (.fld 13) (.t 1))),
    (.chk [] (.c1 .ld1 (.o1 (.fld 13) (.t 1)))),
    (.set 19 (.o1 .ld1 (.o1 (.fld 13) (.t 1)))),
    (.set 16 (.o1 (.ldn 4) (.o1 (.fld 9) (.t 1)))),
    (.set 13 (.o1 (.ldn 4) (.o1 (.fld 5) (.t 1)))),
    (.set 9 (.o1 .ld1 (.o1 (.fld 4) (.t 1)))),
    (.eff [] (some 10) (.call 7) [(.t 9), (.c (.int .i64 6))] [([], ((.o1 (.fld 13) (.t 1)), none)), ([], ((.o1 (.fld 9) (.t 1)), (some 4))), ([], ((.o1 (.fld 5) (.t 1)), (some 4)))]),
    (.chk [] (.c2 (.bin .add) (.c (.int .i64 1)) (.t 10))),
    (.eff [] (some 14) (.call 12) [(.t 13)] [([], ((.o1 (.fld 13) (.t 1)), none)), ([], ((.o1 (.fld 9) (.t 1)), (some 4)))]),
    (.eff [] (some 17) (.call 12) [(.t 16)] [([], ((.o1 (.fld 13) (.t 1)), none))]),
    (.chk [] (.cb 14 [(0, (1, (.c (.int .i64 3)))), (4, (1, (.o2 (.bin .add) (.c (.int .i64 1)) (.t 10)))), (5, (4, (.t 14))), (9, (4, (.t 17))), (13, (1, (.t 19)))])),
    (.eff [] none (.store 14) [(.t 2), (.o2 (.put 13 1) (.o2 (.put 9 4) (.o2 (.put 5 4) (.o2 (.put 4 1) (.o2 (.put 0 1) (.c (.agg #[(.int .i64 0), (str []), (.slice none 0 0), (.int .i64 0), (.int .i64 0), (.int .i64 0), (.int .i64 0), (str []), (.int .i64 0), (.int .i64 0), (.int .i64 0), (str []), (.int .i64 0), (.int .i64 0)])) (.c (.int .i64 3))) (.o2 (.bin .add) (.c (.int .i64 1)) (.t 10))) (.t 14)) (.t 17)) (.t 19))] [])]) .ret) (.seq (.sts [(.chk [] (.c2 (.bin .eql) (.t 5) (.c (.int .i64 1)))),
    (.set 21 (.o2 (.bin .eql) (.t 5) (.c (.int .i64 1))))]) (.cond 21 (.seq (.sts [(.chk [] (.c1 (.fld 1) (.t 1))),
    (.chk [] (.c1 (.ldn 3) (.o1 (.fld 1) (.t 1)))),
    (.chk [] (.c1 (.fld 13) (.t 1))),
    (.chk [] (.c1 .ld1 (.o1 (.fld 13) (.t 1)))),
    (.set 27 (.o1 .ld1 (.o1 (.fld 13) (.t 1)))),
    (.set 24 (.o1 (.ldn 3) (.o1 (.fld 1) (.t 1)))),
    (.eff [] (some 25) (.call 4) [(.t 24)] [([], ((.o1 (.fld 13) (.t 1)), none))]),
    (.chk [] (.cb 14 [(0, (1, (.c (.int .i64 1)))), (1, (3, (.t 25))), (13, (1, (.t 27)))])),
    (.eff [] none (.store 14) [(.t 2), (.o2 (.put 13 1) (.o2 (.put 1 3) (.o2 (.put 0 1) (.c (.agg #[(.int .i64 0), (str []), (.slice none 0 0), (.int .i64 0), (.int .i64 0), (.int .i64 0), (.int .i64 0), (str []), (.int .i64 0), (.int .i64 0), (.int .i64 0), (str []), (.int .i64 0), (.int .i64 0)])) (.c (.int .i64 1))) (.t 25)) (.t 27))] [])]) .ret) .skip)))))) (.seq (.sts [(.chk [] (.c1 (.fld 1) (.t 1))),
    (.chk [] (.c1 (.ldn 3) (.o1 (.fld 1) (.t 1)))),
    (.chk [] (.c1 (.fld 13) (.t 1))),
    (.chk [] (.c1 .ld1 (.o1 (.fld 13) (.t 1)))),
    (.set 33 (.o1 .ld1 (.o1 (.fld 13) (.t 1)))),
    (.set 30 (.o1 (.ldn 3) (.o1 (.fld 1) (.t 1)))),
    (.eff [] (some 31) (.call 4) [(.t 30)] [([], ((.o1 (.fld 13) (.t 1)), none))]),
    (.chk [] (.cb 14 [(0, (1, (.c (.int .i64 2)))), (1, (3, (.t 31))), (13, (1, (.t 33)))])),
    (.eff [] none (.store 14) [(.t 2), (.o2 (.put 13 1) (.o2 (.put 1 3) (.o2 (.put 0 1) (.c (.agg #[(.int .i64 0), (str []), (.slice none 0 0), (.int .i64 0), (.int .i64 0), (.int .i64 0), (.int .i64 0), (str []), (.int .i64 0), (.int .i64 0), (.int .i64 0), (str []), (.int .i64 0), (.int .i64 0)])) (.c (.int .i64 2))) (.t 31)) (.t 33))] [])]) .ret)))
def poLit_E : Res := [((some (.c1 (.ldn 14) (.t 2))), (.o1 (.ldn 14) (.t 2)))]
theorem poLit_C : Try.f26.body.bind (comp Try.prog poLit_M Try.f26.ntmps) = some poLit_S := by kernel_rfl
theorem poLit_R : resE Try.prog poLit_M Try.f26.results.toList = some poLit_E := by kernel_rfl
theorem poLit_H (G : Ctr) (hG : GOk Try.prog G) (a0 : Value) {h : H} {K : Value → H → Prop} {KP : List PanicEntry → H → Prop} (Hw : wpS G poLit_S (retQ poLit_E (callK K KP)) (envOf 0 [a0] env0) h) : HCX Try.prog 26 [a0] h K KP :=
  .inl ⟨by kernel_rfl, hc_of mixed hG Try.func26 poLit_C poLit_R (of_decide_eq_true (by kernel_rfl)) Hw⟩
def poBody_M : Nat → Bool := fun i => Nat.testBit 4125 i
def poBody_L1 : S :=
  (.seq (.seq (.sts [(.chk [] (.c1 .len (.t 0))),
    (.chk [] (.c2 (.bin .lss) (.t 4) (.o1 .len (.t 0)))),
    (.chk [((.o2 (.bin .lss) (.t 4) (.o1 .len (.t 0))), true)] (.c2 (.bin .lss) (.t 4) (.c (.int .i64 16)))),
    (.chk [] (.c3 .pick (.o2 (.bin .lss) (.t 4) (.o1 .len (.t 0))) (.o2 (.bin .lss) (.t 4) (.c (.int .i64 16))) (.c (.bool false)))),
    (.set 12 (.o3 .pick (.o2 (.bin .lss) (.t 4) (.o1 .len (.t 0))) (.o2 (.bin .lss) (.t 4) (.c (.int .i64 16))) (.c (.bool false))))]) (.cond 12 .skip (.exit 0))) (.seq (.block 1 (.sts [(.chk [] (.c2 (.idxA 14) (.t 0) (.t 4))),
    (.chk [] (.c1 (.ldn 14) (.o2 (.idxA 14) (.t 0) (.t 4)))),
    (.set 19 (.o1 (.ldn 14) (.o2 (.idxA 14) (.t 0) (.t 4)))),
    (.eff [] (some 20) (.call 26) [(.t 19)] []),
    (.eff [] (some 21) (.bsl 49 14 1 [(.int .i64 0), (str []), (.slice none 0 0), (.int .i64 0), (.int .i64 0), (.int .i64 0), (.int .i64 0), (str []), (.int .i64 0), (.int .i64 0), (.int .i64 0), (str []), (.int .i64 0), (.int .i64 0)] [0]) [(.t 20)] []),
    (.eff [] (some 22) (.app 49 14 152 [(.int .i64 0), (str []), (.slice none 0 0), (.int .i64 0), (.int .i64 0), (.int .i64 0), (.int .i64 0), (str []), (.int .i64 0), (.int .i64 0), (.int .i64 0), (str []), (.int .i64 0), (.int .i64 0)]) [(.t 3), (.t 21)] []),
    (.set 3 (.t 22))])) (.sts [(.chk [] (.c2 (.bin .add) (.t 4) (.c (.int .i64 1)))),
    (.set 14 (.o2 (.bin .add) (.t 4) (.c (.int .i64 1)))),
    (.set 4 (.t 14))])))
def poBody_S : S :=
  (.seq (.sts [(.set 2 (.c (.slice none 0 0)))]) (.seq (.sts [(.set 3 (.c (.slice none 0 0)))]) (.seq (.seq (.sts [(.set 4 (.c (.int .i64 0)))]) (.block 0 (.loop poBody_L1))) (.seq (.sts [(.set 2 (.t 3))]) .ret))))
def poBody_E : Res := [(none, (.t 2))]
theorem poBody_C : Try.f15.body.bind (comp Try.prog poBody_M Try.f15.ntmps) = some poBody_S := by kernel_rfl
theorem poBody_R : resE Try.prog poBody_M Try.f15.results.toList = some poBody_E := by kernel_rfl
theorem poBody_H (G : Ctr) (hG : GOk Try.prog G) (a0 : Value) {h : H} {K : Value → H → Prop} {KP : List PanicEntry → H → Prop} (Hw : wpS G poBody_S (retQ poBody_E (callK K KP)) (envOf 0 [a0] env0) h) : HCX Try.prog 15 [a0] h K KP :=
  .inl ⟨by kernel_rfl, hc_of mixed hG Try.func15 poBody_C poBody_R (of_decide_eq_true (by kernel_rfl)) Hw⟩
def poProg_M : Nat → Bool := fun i => Nat.testBit 32831 i
def poProg_L1 : S :=
  (.seq (.seq (.sts [(.chk [] (.c1 (.fld 0) (.t 1))),
    (.chk [] (.c1 .ld1 (.o1 (.fld 0) (.t 1)))),
    (.chk [] (.c1 .len (.o1 .ld1 (.o1 (.fld 0) (.t 1))))),
    (.chk [] (.c2 (.bin .lss) (.t 4) (.o1 .len (.o1 .ld1 (.o1 (.fld 0) (.t 1)))))),
    (.chk [((.o2 (.bin .lss) (.t 4) (.o1 .len (.o1 .ld1 (.o1 (.fld 0) (.t 1))))), true)] (.c2 (.bin .lss) (.t 4) (.c (.int .i64 512)))),
    (.chk [] (.c3 .pick (.o2 (.bin .lss) (.t 4) (.o1 .len (.o1 .ld1 (.o1 (.fld 0) (.t 1))))) (.o2 (.bin .lss) (.t 4) (.c (.int .i64 512))) (.c (.bool false)))),
    (.set 15 (.o3 .pick (.o2 (.bin .lss) (.t 4) (.o1 .len (.o1 .ld1 (.o1 (.fld 0) (.t 1))))) (.o2 (.bin .lss) (.t 4) (.c (.int .i64 512))) (.c (.bool false))))]) (.cond 15 .skip (.exit 0))) (.seq (.block 1 (.seq (.sts [(.chk [] (.c1 (.fld 0) (.t 1))),
    (.chk [] (.c1 .ld1 (.o1 (.fld 0) (.t 1)))),
    (.chk [] (.c2 (.idxA 4) (.o1 .ld1 (.o1 (.fld 0) (.t 1))) (.t 4))),
    (.chk [] (.c1 (.ldn 4) (.o2 (.idxA 4) (.o1 .ld1 (.o1 (.fld 0) (.t 1))) (.t 4)))),
    (.set 22 (.o1 (.ldn 4) (.o2 (.idxA 4) (.o1 .ld1 (.o1 (.fld 0) (.t 1))) (.t 4)))),
    (.eff [] (some 5) (.alloc 31 #[(str []), (.slice none 0 0), (.int .i64 0), (.slice none 0 0)]) [] []),
    (.eff [] none (.store 4) [(.t 5), (.t 22)] [])]) (.sts [(.chk [] (.c1 (.fld 0) (.t 3))),
    (.chk [] (.c1 .ld1 (.o1 (.fld 0) (.t 3)))),
    (.chk [] (.c1 (.fld 0) (.t 5))),
    (.chk [] (.c1 (.ldn 3) (.o1 (.fld 0) (.t 5)))),
    (.chk [] (.c1 (.fld 3) (.t 5))),
    (.chk [] (.c1 .ld1 (.o1 (.fld 3) (.t 5)))),
    (.set 29 (.o1 .ld1 (.o1 (.fld 3) (.t 5)))),
    (.set 26 (.o1 (.ldn 3) (.o1 (.fld 0) (.t 5)))),
    (.set 24 (.o1 .ld1 (.o1 (.fld 0) (.t 3)))),
    (.eff [] (some 27) (.call 4) [(.t 26)] [([], ((.o1 (.fld 3) (.t 5)), none)), ([], ((.o1 (.fld 0) (.t 3)), none))]),
    (.eff [] (some 30) (.call 15) [(.t 29)] [([], ((.o1 (.fld 0) (.t 3)), none))]),
    (.chk [] (.cb 4 [(0, (3, (.t 27))), (3, (1, (.t 30)))])),
    (.eff [] (some 32) (.bsl 31 4 1 [(str []), (.slice none 0 0), (.int .i64 0), (.slice none 0 0)] [0]) [(.o2 (.put 3 1) (.o2 (.put 0 3) (.c (.agg #[(str []), (.slice none 0 0), (.int .i64 0), (.slice none 0 0)])) (.t 27)) (.t 30))] [([], ((.o1 (.fld 0) (.t 3)), none))]),
    (.eff [] (some 33) (.app 31 4 72 [(str []), (.slice none 0 0), (.int .i64 0), (.slice none 0 0)]) [(.t 24), (.t 32)] []),
    (.chk [] (.c1 (.fld 0) (.t 3))),
    (.eff [] none (.store 1) [(.o1 (.fld 0) (.t 3)), (.t 33)] [])]))) (.sts [(.chk [] (.c2 (.bin .add) (.t 4) (.c (.int .i64 1)))),
    (.set 17 (.o2 (.bin .add) (.t 4) (.c (.int .i64 1)))),
    (.set 4 (.t 17))])))
def poProg_S : S :=
  (.seq (.sts [(.eff [] (some 1) (.box 24) [(.t 0)] []),
    (.eff [] (some 2) (.alloc 24 #[(.slice none 0 0)]) [] [])]) (.seq (.sts [(.chk [] (.cb 1 [])),
    (.eff [] (some 3) (.alloc 24 #[(.slice none 0 0)]) [] []),
    (.eff [] none (.store 1) [(.t 3), (.c (.agg #[(.slice none 0 0)]))] [])]) (.seq (.seq (.sts [(.set 4 (.c (.int .i64 0)))]) (.block 0 (.loop poProg_L1))) (.seq (.sts [(.chk [] (.c1 (.ldn 1) (.t 3))),
    (.set 35 (.o1 (.ldn 1) (.t 3))),
    (.eff [] none (.store 1) [(.t 2), (.t 35)] [])]) .ret))))
def poProg_E : Res := [((some (.c1 (.ldn 1) (.t 2))), (.o1 (.ldn 1) (.t 2)))]
theorem poProg_C : Try.f8.body.bind (comp Try.prog poProg_M Try.f8.ntmps) = some poProg_S := by kernel_rfl
theorem poProg_R : resE Try.prog poProg_M Try.f8.results.toList = some poProg_E := by kernel_rfl
theorem poProg_H (G : Ctr) (hG : GOk Try.prog G) (a0 : Value) {h : H} {K : Value → H → Prop} {KP : List PanicEntry → H → Prop} (Hw : wpS G poProg_S (retQ poProg_E (callK K KP)) (envOf 0 [a0] env0) h) : HCX Try.prog 8 [a0] h K KP :=
  .inl ⟨by kernel_rfl, hc_of mixed hG Try.func8 poProg_C poProg_R (of_decide_eq_true (by kernel_rfl)) Hw⟩
def poSpo_M : Nat → Bool := fun i => Nat.testBit 164570413941619414047918327 i
def poSpo_L1 : S :=
  (.seq (.seq (.sts [(.chk [] (.c1 (.fld 0) (.t 2))),
    (.chk [] (.c1 (.fld 1) (.o1 (.fld 0) (.t 2)))),
    (.chk [] (.c1 .ld1 (.o1 (.fld 1) (.o1 (.fld 0) (.t 2))))),
    (.chk [] (.c1 .len (.o1 .ld1 (.o1 (.fld 1) (.o1 (.fld 0) (.t 2)))))),
    (.chk [] (.c2 (.bin .lss) (.o1 .len (.o1 .ld1 (.o1 (.fld 1) (.o1 (.fld 0) (.t 2))))) (.c (.int .i64 9)))),
    (.set 29 (.o2 (.bin .lss) (.o1 .len (.o1 .ld1 (.o1 (.fld 1) (.o1 (.fld 0) (.t 2))))) (.c (.int .i64 9))))]) (.cond 29 .skip (.exit 1))) (.block 2 (.sts [(.chk [] (.c1 (.fld 0) (.t 2))),
    (.chk [] (.c1 (.fld 1) (.o1 (.fld 0) (.t 2)))),
    (.chk [] (.c1 .ld1 (.o1 (.fld 1) (.o1 (.fld 0) (.t 2))))),
    (.chk [] (.c1 (.ldn 4) (.t 6))),
    (.set 33 (.o1 (.ldn 4) (.t 6))),
    (.set 32 (.o1 .ld1 (.o1 (.fld 1) (.o1 (.fld 0) (.t 2))))),
    (.eff [] (some 34) (.bsl 43 4 1 [(.int .i64 0), (.int .i64 0), (str []), (.int .i64 0)] [0]) [(.t 33)] []),
    (.eff [] (some 35) (.app 43 4 40 [(.int .i64 0), (.int .i64 0), (str []), (.int .i64 0)]) [(.t 32), (.t 34)] []),
    (.chk [] (.c1 (.fld 0) (.t 2))),
    (.chk [] (.c1 (.fld 1) (.o1 (.fld 0) (.t 2)))),
    (.eff [] none (.store 1) [(.o1 (.fld 1) (.o1 (.fld 0) (.t 2))), (.t 35)] [])])))
def poSpo_L2 : S :=
  (.seq (.seq (.sts [(.chk [] (.c1 (.fld 3) (.t 2))),
    (.chk [] (.c1 .ld1 (.o1 (.fld 3) (.t 2)))),
    (.chk [] (.c1 .len (.o1 .ld1 (.o1 (.fld 3) (.t 2))))),
    (.chk [] (.c2 (.bin .lss) (.o1 .len (.o1 .ld1 (.o1 (.fld 3) (.t 2)))) (.c (.int .i64 17)))),
    (.set 58 (.o2 (.bin .lss) (.o1 .len (.o1 .ld1 (.o1 (.fld 3) (.t 2)))) (.c (.int .i64 17))))]) (.cond 58 .skip (.exit 3))) (.block 4 (.sts [(.chk [] (.c1 (.fld 3) (.t 2))),
    (.chk [] (.c1 .ld1 (.o1 (.fld 3) (.t 2)))),
    (.chk [] (.c1 (.ldn 14) (.t 7))),
    (.set 61 (.o1 (.ldn 14) (.t 7))),
    (.set 60 (.o1 .ld1 (.o1 (.fld 3) (.t 2)))),
    (.eff [] (some 62) (.bsl 49 14 1 [(.int .i64 0), (str []), (.slice none 0 0), (.int .i64 0), (.int .i64 0), (.int .i64 0), (.int .i64 0), (str []), (.int .i64 0), (.int .i64 0), (.int .i64 0), (str []), (.int .i64 0), (.int .i64 0)] [0]) [(.t 61)] []),
    (.eff [] (some 63) (.app 49 14 152 [(.int .i64 0), (str []), (.slice none 0 0), (.int .i64 0), (.int .i64 0), (.int .i64 0), (.int .i64 0), (str []), (.int .i64 0), (.int .i64 0), (.int .i64 0), (str []), (.int .i64 0), (.int .i64 0)]) [(.t 60), (.t 62)] []),
    (.chk [] (.c1 (.fld 3) (.t 2))),
    (.eff [] none (.store 1) [(.o1 (.fld 3) (.t 2)), (.t 63)] [])])))
def poSpo_S : S :=
  (.seq (.sts [(.eff [] (some 2) (.box 31) [(.t 0)] []),
    (.eff [] (some 4) (.alloc 31 #[(str []), (.slice none 0 0), (.int .i64 0), (.slice none 0 0)]) [] []),
    (.set 5 (.c (.int .i64 0)))]) (.seq (.sts [(.chk [] (.cb 4 [(0, (1, (.c (.int .i64 4)))), (2, (1, (.c (str [88]))))])),
    (.eff [] (some 6) (.alloc 43 #[(.int .i64 0), (.int .i64 0), (str []), (.int .i64 0)]) [] []),
    (.eff [] none (.store 4) [(.t 6), (.o2 (.put 2 1) (.o2 (.put 0 1) (.c (.agg #[(.int .i64 0), (.int .i64 0), (str []), (.int .i64 0)])) (.c (.int .i64 4))) (.c (str [88])))] [])]) (.seq (.sts [(.chk [] (.cb 3 [(0, (1, (.c (str [113]))))])),
    (.chk [] (.cb 14 [(0, (1, (.c (.int .i64 1)))), (1, (3, (.o2 (.put 0 1) (.c (.agg #[(str []), (.slice none 0 0), (.int .i64 0)])) (.c (str [113])))))])),
    (.eff [] (some 7) (.alloc 49 #[(.int .i64 0), (str []), (.slice none 0 0), (.int .i64 0), (.int .i64 0), (.int .i64 0), (.int .i64 0), (str []), (.int .i64 0), (.int .i64 0), (.int .i64 0), (str []), (.int .i64 0), (.int .i64 0)]) [] []),
    (.eff [] none (.store 14) [(.t 7), (.o2 (.put 1 3) (.o2 (.put 0 1) (.c (.agg #[(.int .i64 0), (str []), (.slice none 0 0), (.int .i64 0), (.int .i64 0), (.int .i64 0), (.int .i64 0), (str []), (.int .i64 0), (.int .i64 0), (.int .i64 0), (str []), (.int .i64 0), (.int .i64 0)])) (.c (.int .i64 1))) (.o2 (.put 0 1) (.c (.agg #[(str []), (.slice none 0 0), (.int .i64 0)])) (.c (str [113]))))] [])]) (.seq (.seq (.sts [(.set 11 (.t 1))]) (.block 0 (.seq (.sts [(.chk [] (.c2 (.bin .eql) (.t 11) (.c (.int .i64 0)))),
    (.set 18 (.o2 (.bin .eql) (.t 11) (.c (.int .i64 0))))]) (.cond 18 (.seq (.sts [(.chk [] (.c1 (.fld 0) (.t 2))),
    (.chk [] (.c1 (.fld 0) (.o1 (.fld 0) (.t 2)))),
    (.eff [] none (.store 1) [(.o1 (.fld 0) (.o1 (.fld 0) (.t 2))), (.c (str [81]))] [])]) (.seq (.sts [(.chk [] (.c1 (.ldn 4) (.t 2))),
    (.set 22 (.o1 (.ldn 4) (.t 2))),
    (.eff [] none (.store 4) [(.t 4), (.t 22)] []),
    (.set 5 (.c (.int .i64 14)))]) .ret)) (.seq (.sts [(.chk [] (.c2 (.bin .eql) (.t 11) (.c (.int .i64 1)))),
    (.set 23 (.o2 (.bin .eql) (.t 11) (.c (.int .i64 1))))]) (.cond 23 (.seq (.block 1 (.loop poSpo_L1)) (.seq (.sts [(.chk [] (.c1 (.ldn 4) (.t 2))),
    (.set 38 (.o1 (.ldn 4) (.t 2))),
    (.eff [] none (.store 4) [(.t 4), (.t 38)] []),
    (.set 5 (.c (.int .i64 22)))]) .ret)) (.seq (.sts [(.chk [] (.c2 (.bin .eql) (.t 11) (.c (.int .i64 2)))),
    (.set 39 (.o2 (.bin .eql) (.t 11) (.c (.int .i64 2))))]) (.cond 39 (.seq (.sts [(.chk [] (.cb 4 [(0, (1, (.c (.int .i64 0))))])),
    (.eff [] (some 42) (.bsl 43 4 1 [(.int .i64 0), (.int .i64 0), (str []), (.int .i64 0)] [0]) [(.o2 (.put 0 1) (.c (.agg #[(.int .i64 0), (.int .i64 0), (str []), (.int .i64 0)])) (.c (.int .i64 0)))] []),
    (.chk [] (.c1 (.fld 0) (.t 2))),
    (.chk [] (.c1 (.fld 1) (.o1 (.fld 0) (.t 2)))),
    (.eff [] none (.store 1) [(.o1 (.fld 1) (.o1 (.fld 0) (.t 2))), (.t 42)] [])]) (.seq (.sts [(.chk [] (.c1 (.ldn 4) (.t 2))),
    (.set 45 (.o1 (.ldn 4) (.t 2))),
    (.eff [] none (.store 4) [(.t 4), (.t 45)] []),
    (.set 5 (.c (.int .i64 5)))]) .ret)) (.seq (.sts [(.chk [] (.c2 (.bin .eql) (.t 11) (.c (.int .i64 3)))),
    (.set 46 (.o2 (.bin .eql) (.t 11) (.c (.int .i64 3))))]) (.cond 46 (.seq (.sts [(.chk [] (.cb 4 [(0, (1, (.c (.int .i64 4)))), (1, (1, (.c (.int .i64 1)))), (2, (1, (.c (str [88]))))])),
    (.eff [] (some 49) (.bsl 43 4 1 [(.int .i64 0), (.int .i64 0), (str []), (.int .i64 0)] [0]) [(.o2 (.put 2 1) (.o2 (.put 1 1) (.o2 (.put 0 1) (.c (.agg #[(.int .i64 0), (.int .i64 0), (str []), (.int .i64 0)])) (.c (.int .i64 4))) (.c (.int .i64 1))) (.c (str [88])))] []),
    (.chk [] (.c1 (.fld 0) (.t 2))),
    (.chk [] (.c1 (.fld 1) (.o1 (.fld 0) (.t 2)))),
    (.eff [] none (.store 1) [(.o1 (.fld 1) (.o1 (.fld 0) (.t 2))), (.t 49)] [])]) (.seq (.sts [(.chk [] (.c1 (.ldn 4) (.t 2))),
    (.set 52 (.o1 (.ldn 4) (.t 2))),
    (.eff [] none (.store 4) [(.t 4), (.t 52)] []),
    (.set 5 (.c (.int .i64 14)))]) .ret)) (.seq (.sts [(.chk [] (.c2 (.bin .eql) (.t 11) (.c (.int .i64 4)))),
    (.set 53 (.o2 (.bin .eql) (.t 11) (.c (.int .i64 4))))]) (.cond 53 (.seq (.block 3 (.loop poSpo_L2)) (.seq (.sts [(.chk [] (.c1 (.ldn 4) (.t 2))),
    (.set 65 (.o1 (.ldn 4) (.t 2))),
    (.eff [] none (.store 4) [(.t 4), (.t 65)] []),
    (.set 5 (.c (.int .i64 23)))]) .ret)) (.seq (.sts [(.chk [] (.c2 (.bin .eql) (.t 11) (.c (.int .i64 5)))),
    (.set 66 (.o2 (.bin .eql) (.t 11) (.c (.int .i64 5))))]) (.cond 66 (.sts [(.chk [] (.c1 (.fld 0) (.t 7))),
    (.eff [] none (.store 1) [(.o1 (.fld 0) (.t 7)), (.c (.int .i64 0))] [])]) (.seq (.sts [(.chk [] (.c2 (.bin .eql) (.t 11) (.c (.int .i64 6)))),
    (.set 69 (.o2 (.bin .eql) (.t 11) (.c (.int .i64 6))))]) (.cond 69 (.sts [(.chk [] (.c1 (.fld 4) (.t 7))),
    (.eff [] none (.store 1) [(.o1 (.fld 4) (.t 7)), (.c (.int .i64 1))] [])]) (.seq (.sts [(.chk [] (.c2 (.bin .eql) (.t 11) (.c (.int .i64 7)))),
    (.set 72 (.o2 (.bin .eql) (.t 11) (.c (.int .i64 7))))]) (.cond 72 (.sts [(.chk [] (.c1 (.ldn 4) (.t 6))),
    (.chk [] (.c1 (.ldn 4) (.t 6))),
    (.chk [] (.cb 14 [(0, (1, (.c (.int .i64 3)))), (4, (1, (.c (.int .i64 7)))), (5, (4, (.o1 (.ldn 4) (.t 6)))), (9, (4, (.o1 (.ldn 4) (.t 6))))])),
    (.set 76 (.o2 (.put 9 4) (.o2 (.put 5 4) (.o2 (.put 4 1) (.o2 (.put 0 1) (.c (.agg #[(.int .i64 0), (str []), (.slice none 0 0), (.int .i64 0), (.int .i64 0), (.int .i64 0), (.int .i64 0), (str []), (.int .i64 0), (.int .i64 0), (.int .i64 0), (str []), (.int .i64 0), (.int .i64 0)])) (.c (.int .i64 3))) (.c (.int .i64 7))) (.o1 (.ldn 4) (.t 6))) (.o1 (.ldn 4) (.t 6)))),
    (.eff [] none (.store 14) [(.t 7), (.t 76)] [])]) (.seq (.sts [(.chk [] (.c2 (.bin .eql) (.t 11) (.c (.int .i64 8)))),
    (.set 77 (.o2 (.bin .eql) (.t 11) (.c (.int .i64 8))))]) (.cond 77 (.sts [(.chk [] (.c1 (.ldn 4) (.t 6))),
    (.chk [] (.c1 (.ldn 4) (.t 6))),
    (.chk [] (.cb 3 [(0, (1, (.c (str [113]))))])),
    (.chk [] (.cb 14 [(0, (1, (.c (.int .i64 3)))), (4, (1, (.c (.int .i64 1)))), (5, (4, (.o1 (.ldn 4) (.t 6)))), (9, (4, (.o1 (.ldn 4) (.t 6)))), (1, (3, (.o2 (.put 0 1) (.c (.agg #[(str []), (.slice none 0 0), (.int .i64 0)])) (.c (str [113])))))])),
    (.set 82 (.o2 (.put 1 3) (.o2 (.put 9 4) (.o2 (.put 5 4) (.o2 (.put 4 1) (.o2 (.put 0 1) (.c (.agg #[(.int .i64 0), (str []), (.slice none 0 0), (.int .i64 0), (.int .i64 0), (.int .i64 0), (.int .i64 0), (str []), (.int .i64 0), (.int .i64 0), (.int .i64 0), (str []), (.int .i64 0), (.int .i64 0)])) (.c (.int .i64 3))) (.c (.int .i64 1))) (.o1 (.ldn 4) (.t 6))) (.o1 (.ldn 4) (.t 6))) (.o2 (.put 0 1) (.c (.agg #[(str []), (.slice none 0 0), (.int .i64 0)])) (.c (str [113]))))),
    (.eff [] none (.store 14) [(.t 7), (.t 82)] [])]) (.seq (.sts [(.chk [] (.c2 (.bin .eql) (.t 11) (.c (.int .i64 9)))),
    (.set 83 (.o2 (.bin .eql) (.t 11) (.c (.int .i64 9))))]) (.cond 83 (.sts [(.chk [] (.cb 4 [(0, (1, (.c (.int .i64 1))))])),
    (.chk [] (.c1 (.fld 5) (.t 7))),
    (.eff [] none (.store 4) [(.o1 (.fld 5) (.t 7)), (.o2 (.put 0 1) (.c (.agg #[(.int .i64 0), (.int .i64 0), (str []), (.int .i64 0)])) (.c (.int .i64 1)))] [])]) (.seq (.sts [(.chk [] (.c2 (.bin .eql) (.t 11) (.c (.int .i64 10)))),
    (.set 87 (.o2 (.bin .eql) (.t 11) (.c (.int .i64 10))))]) (.cond 87 (.seq (.sts [(.chk [] (.c1 (.ldn 4) (.t 6))),
    (.chk [] (.cb 4 [(0, (1, (.c (.int .i64 2)))), (2, (1, (.c (str [110, 111, 116]))))])),
    (.chk [] (.cb 14 [(0, (1, (.c (.int .i64 3)))), (4, (1, (.c (.int .i64 1)))), (5, (4, (.o1 (.ldn 4) (.t 6)))), (9, (4, (.o2 (.put 2 1) (.o2 (.put 0 1) (.c (.agg #[(.int .i64 0), (.int .i64 0), (str []), (.int .i64 0)])) (.c (.int .i64 2))) (.c (str [110, 111, 116])))))])),
    (.set 91 (.o2 (.put 9 4) (.o2 (.put 5 4) (.o2 (.put 4 1) (.o2 (.put 0 1) (.c (.agg #[(.int .i64 0), (str []), (.slice none 0 0), (.int .i64 0), (.int .i64 0), (.int .i64 0), (.int .i64 0), (str []), (.int .i64 0), (.int .i64 0), (.int .i64 0), (str []), (.int .i64 0), (.int .i64 0)])) (.c (.int .i64 3))) (.c (.int .i64 1))) (.o1 (.ldn 4) (.t 6))) (.o2 (.put 2 1) (.o2 (.put 0 1) (.c (.agg #[(.int .i64 0), (.int .i64 0), (str []), (.int .i64 0)])) (.c (.int .i64 2))) (.c (str [110, 111, 116]))))),
    (.eff [] none (.store 14) [(.t 7), (.t 91)] [])]) (.seq (.sts [(.chk [] (.c1 (.ldn 14) (.t 7))),
    (.set 92 (.o1 (.ldn 14) (.t 7))),
    (.eff [] (some 93) (.bsl 49 14 1 [(.int .i64 0), (str []), (.slice none 0 0), (.int .i64 0), (.int .i64 0), (.int .i64 0), (.int .i64 0), (str []), (.int .i64 0), (.int .i64 0), (.int .i64 0), (str []), (.int .i64 0), (.int .i64 0)] [0]) [(.t 92)] []),
    (.chk [] (.c1 (.fld 3) (.t 2))),
    (.eff [] none (.store 1) [(.o1 (.fld 3) (.t 2)), (.t 93)] [])]) (.seq (.sts [(.chk [] (.c1 (.ldn 4) (.t 2))),
    (.set 95 (.o1 (.ldn 4) (.t 2))),
    (.eff [] none (.store 4) [(.t 4), (.t 95)] []),
    (.set 5 (.c (.int .i64 5)))]) .ret))) (.seq (.sts [(.chk [] (.cb 3 [(0, (1, (.c (str [110, 111, 116]))))])),
    (.chk [] (.cb 14 [(0, (1, (.c (.int .i64 2)))), (1, (3, (.o2 (.put 0 1) (.c (.agg #[(str []), (.slice none 0 0), (.int .i64 0)])) (.c (str [110, 111, 116])))))])),
    (.eff [] none (.store 14) [(.t 7), (.o2 (.put 1 3) (.o2 (.put 0 1) (.c (.agg #[(.int .i64 0), (str []), (.slice none 0 0), (.int .i64 0), (.int .i64 0), (.int .i64 0), (.int .i64 0), (str []), (.int .i64 0), (.int .i64 0), (.int .i64 0), (str []), (.int .i64 0), (.int .i64 0)])) (.c (.int .i64 2))) (.o2 (.put 0 1) (.c (.agg #[(str []), (.slice none 0 0), (.int .i64 0)])) (.c (str [110, 111, 116]))))] [])]) (.seq (.sts [(.chk [] (.c1 (.ldn 14) (.t 7))),
    (.set 14 (.o1 (.ldn 14) (.t 7))),
    (.eff [] (some 15) (.bsl 49 14 1 [(.int .i64 0), (str []), (.slice none 0 0), (.int .i64 0), (.int .i64 0), (.int .i64 0), (.int .i64 0), (str []), (.int .i64 0), (.int .i64 0), (.int .i64 0), (str []), (.int .i64 0), (.int .i64 0)] [0]) [(.t 14)] []),
    (.chk [] (.c1 (.fld 3) (.t 2))),
    (.eff [] none (.store 1) [(.o1 (.fld 3) (.t 2)), (.t 15)] [])]) (.seq (.sts [(.chk [] (.c1 (.ldn 4) (.t 2))),
    (.set 17 (.o1 (.ldn 4) (.t 2))),
    (.eff [] none (.store 4) [(.t 4), (.t 17)] []),
    (.set 5 (.c (.int .i64 14)))]) .ret))))))))))))))))))))))))))) (.seq (.sts [(.chk [] (.c1 (.ldn 14) (.t 7))),
    (.set 96 (.o1 (.ldn 14) (.t 7))),
    (.eff [] (some 97) (.bsl 49 14 1 [(.int .i64 0), (str []), (.slice none 0 0), (.int .i64 0), (.int .i64 0), (.int .i64 0), (.int .i64 0), (str []), (.int .i64 0), (.int .i64 0), (.int .i64 0), (str []), (.int .i64 0), (.int .i64 0)] [0]) [(.t 96)] []),
    (.chk [] (.c1 (.fld 3) (.t 2))),
    (.eff [] none (.store 1) [(.o1 (.fld 3) (.t 2)), (.t 97)] [])]) (.seq (.sts [(.chk [] (.c1 (.ldn 4) (.t 2))),
    (.set 99 (.o1 (.ldn 4) (.t 2))),
    (.eff [] none (.store 4) [(.t 4), (.t 99)] []),
    (.set 5 (.c (.int .i64 2)))]) .ret))))))
def poSpo_E : Res := [((some (.c1 (.ldn 4) (.t 4))), (.o1 (.ldn 4) (.t 4))), (none, (.t 5))]
theorem poSpo_C : Try.f6.body.bind (comp Try.prog poSpo_M Try.f6.ntmps) = some poSpo_S := by kernel_rfl
theorem poSpo_R : resE Try.prog poSpo_M Try.f6.results.toList = some poSpo_E := by kernel_rfl
theorem poSpo_H (G : Ctr) (hG : GOk Try.prog G) (a0 : Value) (a1 : Value) {h : H} {K : Value → H → Prop} {KP : List PanicEntry → H → Prop} (Hw : wpS G poSpo_S (retQ poSpo_E (callK K KP)) (envOf 0 [a0, a1] env0) h) : HCX Try.prog 6 [a0, a1] h K KP :=
  .inl ⟨by kernel_rfl, hc_of mixed hG Try.func6 poSpo_C poSpo_R (of_decide_eq_true (by kernel_rfl)) Hw⟩
def poClauseW_M : Nat → Bool := fun i => Nat.testBit 2055 i
def poClauseW_S : S :=
  (.seq (.sts [(.eff [] (some 2) (.box 47) [(.t 0)] [])]) (.seq (.sts [(.chk [] (.c1 (.fld 0) (.t 2))),
    (.chk [] (.c1 (.ldn 3) (.o1 (.fld 0) (.t 2)))),
    (.set 5 (.o1 (.ldn 3) (.o1 (.fld 0) (.t 2)))),
    (.eff [] (some 7) (.call 27) [(.t 5), (.t 1)] [])]) (.seq (.seq (.sts [(.chk [] (.c1 (.fld 3) (.t 2))),
    (.chk [] (.c1 .ld1 (.o1 (.fld 3) (.t 2)))),
    (.chk [] (.c1 .len (.o1 .ld1 (.o1 (.fld 3) (.t 2))))),
    (.chk [] (.c2 (.bin .gtr) (.o1 .len (.o1 .ld1 (.o1 (.fld 3) (.t 2)))) (.c (.int .i64 0)))),
    (.set 11 (.o2 (.bin .gtr) (.o1 .len (.o1 .ld1 (.o1 (.fld 3) (.t 2)))) (.c (.int .i64 0))))]) (.cond 11 (.seq (.sts [(.eff [] (some 13) (.call 28) [(.t 1), (.c (str [32, 58, 45, 32]))] [])]) (.sts [(.chk [] (.c1 (.fld 3) (.t 2))),
    (.chk [] (.c1 .ld1 (.o1 (.fld 3) (.t 2)))),
    (.set 16 (.o1 .ld1 (.o1 (.fld 3) (.t 2)))),
    (.eff [] (some 17) (.call 30) [(.t 16)] []),
    (.eff [] (some 18) (.call 29) [(.t 1), (.c (str [44, 32])), (.t 17)] [])])) .skip)) (.sts [(.eff [] (some 20) (.call 18) [(.t 1), (.c (.int .u8 46))] [])]))))
def poClauseW_E : Res := []
theorem poClauseW_C : Try.f17.body.bind (comp Try.prog poClauseW_M Try.f17.ntmps) = some poClauseW_S := by kernel_rfl
theorem poClauseW_R : resE Try.prog poClauseW_M Try.f17.results.toList = some poClauseW_E := by kernel_rfl
theorem poClauseW_H (G : Ctr) (hG : GOk Try.prog G) (a0 : Value) (a1 : Value) {h : H} {K : Value → H → Prop} {KP : List PanicEntry → H → Prop} (Hw : wpS G poClauseW_S (retQ poClauseW_E (callK K KP)) (envOf 0 [a0, a1] env0) h) : HCX Try.prog 17 [a0, a1] h K KP :=
  .inl ⟨by kernel_rfl, hc_of mixed hG Try.func17 poClauseW_C poClauseW_R (of_decide_eq_true (by kernel_rfl)) Hw⟩
def poClause_M : Nat → Bool := fun i => Nat.testBit 7 i
def poClause_S : S :=
  (.seq (.sts [(.eff [] (some 1) (.box 31) [(.t 0)] []),
    (.set 2 (.c (str [])))]) (.seq (.sts [(.chk [] (.c1 (.ldn 4) (.t 1))),
    (.chk [] (.c1 (.ldn 4) (.t 1))),
    (.chk [] (.c1 (.mki 47) (.o1 (.ldn 4) (.t 1)))),
    (.set 6 (.o1 (.mki 47) (.o1 (.ldn 4) (.t 1)))),
    (.set 3 (.o1 (.ldn 4) (.t 1))),
    (.eff [] (some 4) (.call 14) [(.t 3)] [([], ((.t 1), (some 4)))]),
    (.eff [] (some 7) (.call 13) [(.t 4), (.t 6)] []),
    (.set 2 (.t 7))]) .ret))
def poClause_E : Res := [(none, (.t 2))]
theorem poClause_C : Try.f5.body.bind (comp Try.prog poClause_M Try.f5.ntmps) = some poClause_S := by kernel_rfl
theorem poClause_R : resE Try.prog poClause_M Try.f5.results.toList = some poClause_E := by kernel_rfl
theorem poClause_H (G : Ctr) (hG : GOk Try.prog G) (a0 : Value) {h : H} {K : Value → H → Prop} {KP : List PanicEntry → H → Prop} (Hw : wpS G poClause_S (retQ poClause_E (callK K KP)) (envOf 0 [a0] env0) h) : HCX Try.prog 5 [a0] h K KP :=
  .inl ⟨by kernel_rfl, hc_of mixed hG Try.func5 poClause_C poClause_R (of_decide_eq_true (by kernel_rfl)) Hw⟩
def poProgram_M : Nat → Bool := fun i => Nat.testBit 15663 i
def poProgram_L1 : S :=
  (.seq (.sts [(.chk [] (.c2 (.bin .lss) (.t 12) (.t 11))),
    (.set 13 (.o2 (.bin .lss) (.t 12) (.t 11)))]) (.seq (.cond 13 .skip (.exit 0)) (.seq (.block 1 (.seq (.sts [(.chk [] (.c2 (.idxA 4) (.t 10) (.t 12))),
    (.chk [] (.c1 (.ldn 4) (.o2 (.idxA 4) (.t 10) (.t 12)))),
    (.set 15 (.o1 (.ldn 4) (.o2 (.idxA 4) (.t 10) (.t 12)))),
    (.eff [] (some 5) (.alloc 31 #[(str []), (.slice none 0 0), (.int .i64 0), (.slice none 0 0)]) [] []),
    (.eff [] none (.store 4) [(.t 5), (.t 15)] [])]) (.seq (.sts [(.chk [] (.c1 (.ldn 4) (.t 5))),
    (.set 16 (.o1 (.ldn 4) (.t 5))),
    (.eff [] (some 17) (.call 17) [(.t 16), (.t 3)] [])]) (.sts [(.eff [] (some 18) (.call 18) [(.t 3), (.c (.int .u8 10))] [])])))) (.sts [(.chk [] (.c2 (.bin .add) (.t 12) (.c (.int .i64 1)))),
    (.set 19 (.o2 (.bin .add) (.t 12) (.c (.int .i64 1)))),
    (.set 12 (.t 19))]))))
def poProgram_S : S :=
  (.seq (.sts [(.eff [] (some 1) (.box 24) [(.t 0)] []),
    (.set 2 (.c (str [])))]) (.seq (.seq (.sts [(.chk [] (.c1 (.ldn 1) (.t 1))),
    (.set 6 (.o1 (.ldn 1) (.t 1))),
    (.eff [] (some 7) (.call 9) [(.t 6)] []),
    (.chk [] (.c2 (.bin .neq) (.t 7) (.c (.int .i64 0)))),
    (.set 8 (.o2 (.bin .neq) (.t 7) (.c (.int .i64 0))))]) (.cond 8 (.seq (.sts [(.set 2 (.c (str [])))]) .ret) .skip)) (.seq (.sts [(.eff [] (some 3) (.alloc 55 #[(.pointer none), (.slice none 0 0)]) [] [])]) (.seq (.seq (.sts [(.chk [] (.c1 (.fld 0) (.t 1))),
    (.chk [] (.c1 .ld1 (.o1 (.fld 0) (.t 1)))),
    (.set 10 (.o1 .ld1 (.o1 (.fld 0) (.t 1)))),
    (.chk [] (.c1 .len (.t 10))),
    (.set 11 (.o1 .len (.t 10))),
    (.set 12 (.c (.int .i64 0)))]) (.block 0 (.loop poProgram_L1))) (.seq (.sts [(.eff [] (some 20) (.call 19) [(.t 3)] []),
    (.set 2 (.t 20))]) .ret)))))
def poProgram_E : Res := [(none, (.t 2))]
theorem poProgram_C : Try.f10.body.bind (comp Try.prog poProgram_M Try.f10.ntmps) = some poProgram_S := by kernel_rfl
theorem poProgram_R : resE Try.prog poProgram_M Try.f10.results.toList = some poProgram_E := by kernel_rfl
theorem poProgram_H (G : Ctr) (hG : GOk Try.prog G) (a0 : Value) {h : H} {K : Value → H → Prop} {KP : List PanicEntry → H → Prop} (Hw : wpS G poProgram_S (retQ poProgram_E (callK K KP)) (envOf 0 [a0] env0) h) : HCX Try.prog 10 [a0] h K KP :=
  .inl ⟨by kernel_rfl, hc_of mixed hG Try.func10 poProgram_C poProgram_R (of_decide_eq_true (by kernel_rfl)) Hw⟩
def poText_M : Nat → Bool := fun i => Nat.testBit 179 i
def poText_S : S :=
  (.seq (.sts [(.set 4 (.c (str [])))]) (.seq (.seq (.sts [(.chk [] (.c2 (.bin .neq) (.t 0) (.c (.int .i64 0)))),
    (.set 7 (.o2 (.bin .neq) (.t 0) (.c (.int .i64 0))))]) (.cond 7 (.seq (.sts [(.set 4 (.c (str [])))]) .ret) .skip)) (.seq (.sts [(.eff [] (some 5) (.alloc 55 #[(.pointer none), (.slice none 0 0)]) [] [])]) (.seq (.sts [(.eff [] (some 9) (.inv [(47, 17), (71, 27), (84, 65), (87, 84), (110, 66)]) [(.t 1), (.t 5)] [])]) (.seq (.sts [(.eff [] (some 10) (.call 19) [(.t 5)] []),
    (.set 4 (.t 10))]) .ret)))))
def poText_E : Res := [(none, (.t 4))]
theorem poText_C : Try.f13.body.bind (comp Try.prog poText_M Try.f13.ntmps) = some poText_S := by kernel_rfl
theorem poText_R : resE Try.prog poText_M Try.f13.results.toList = some poText_E := by kernel_rfl
theorem poText_H (G : Ctr) (hG : GOk Try.prog G) (a0 : Value) (a1 : Value) {h : H} {K : Value → H → Prop} {KP : List PanicEntry → H → Prop} (Hw : wpS G poText_S (retQ poText_E (callK K KP)) (envOf 0 [a0, a1] env0) h) : HCX Try.prog 13 [a0, a1] h K KP :=
  .inl ⟨by kernel_rfl, hc_of mixed hG Try.func13 poText_C poText_R (of_decide_eq_true (by kernel_rfl)) Hw⟩
def poLaw_M : Nat → Bool := fun i => Nat.testBit 67551 i
def poLaw_S : S :=
  (.seq (.sts [(.eff [] (some 3) (.box 24) [(.t 0)] []),
    (.eff [] (some 4) (.box 27) [(.t 1)] []),
    (.set 6 (.c (.bool false)))]) (.seq (.sts [(.chk [] (.c1 (.ldn 3) (.t 4))),
    (.set 11 (.o1 (.ldn 3) (.t 4))),
    (.eff [] (some 12) (.call 4) [(.t 11)] []),
    (.chk [] (.cb 4 [(0, (3, (.t 12)))])),
    (.eff [] (some 7) (.alloc 31 #[(str []), (.slice none 0 0), (.int .i64 0), (.slice none 0 0)]) [] []),
    (.eff [] none (.store 4) [(.t 7), (.o2 (.put 0 3) (.c (.agg #[(str []), (.slice none 0 0), (.int .i64 0), (.slice none 0 0)])) (.t 12))] [])]) (.seq (.seq (.sts [(.chk [] (.c1 (.ldn 4) (.t 7))),
    (.set 14 (.o1 (.ldn 4) (.t 7))),
    (.eff [] (some 15) (.call 5) [(.t 14)] []),
    (.chk [] (.c2 (.bin .eql) (.t 15) (.c (str [])))),
    (.set 16 (.o2 (.bin .eql) (.t 15) (.c (str []))))]) (.cond 16 (.seq (.sts [(.set 6 (.c (.bool false)))]) .ret) .skip)) (.seq (.join (.seq (.sts [(.chk [] (.c1 (.ldn 4) (.t 7)))]) (.both (.seq (.sts [(.set 18 (.o1 (.ldn 4) (.t 7))),
    (.eff [] (some 20) (.call 7) [(.t 2), (.c (.int .i64 12))] [([], ((.t 7), (some 4)))])]) (.both (.sts [(.eff [] (some 21) (.call 6) [(.t 18), (.t 20)] []),
    (.chk [] (.c1 (.ext 0) (.t 21))),
    (.chk [] (.c1 (.ext 1) (.t 21))),
    (.eff [] (some 8) (.alloc 31 #[(str []), (.slice none 0 0), (.int .i64 0), (.slice none 0 0)]) [] []),
    (.eff [] none (.store 4) [(.t 8), (.o1 (.ext 0) (.t 21))] []),
    (.set 9 (.o1 (.ext 1) (.t 21)))]) (.sts [(.eff [] (some 8) (.alloc 31 #[(str []), (.slice none 0 0), (.int .i64 0), (.slice none 0 0)]) [] [([], ((.t 7), (some 4)))]),
    (.eff [] (some 21) (.call 6) [(.t 18), (.t 20)] []),
    (.chk [] (.c1 (.ext 0) (.t 21))),
    (.chk [] (.c1 (.ext 1) (.t 21))),
    (.eff [] none (.store 4) [(.t 8), (.o1 (.ext 0) (.t 21))] []),
    (.set 9 (.o1 (.ext 1) (.t 21)))]))) (.sts [(.set 18 (.o1 (.ldn 4) (.t 7))),
    (.eff [] (some 8) (.alloc 31 #[(str []), (.slice none 0 0), (.int .i64 0), (.slice none 0 0)]) [] [([], ((.t 7), (some 4)))]),
    (.eff [] (some 20) (.call 7) [(.t 2), (.c (.int .i64 12))] [([], ((.t 7), (some 4)))]),
    (.eff [] (some 21) (.call 6) [(.t 18), (.t 20)] []),
    (.chk [] (.c1 (.ext 0) (.t 21))),
    (.chk [] (.c1 (.ext 1) (.t 21))),
    (.eff [] none (.store 4) [(.t 8), (.o1 (.ext 0) (.t 21))] []),
    (.set 9 (.o1 (.ext 1) (.t 21)))])))) (.seq (.sts [(.chk [] (.c1 (.ldn 1) (.t 3))),
    (.set 24 (.o1 (.ldn 1) (.t 3))),
    (.eff [] (some 25) (.call 8) [(.t 24)] []),
    (.eff [] (some 10) (.alloc 24 #[(.slice none 0 0)]) [] []),
    (.eff [] none (.store 1) [(.t 10), (.t 25)] [])]) (.seq (.sts [(.chk [] (.c1 (.fld 0) (.t 10))),
    (.chk [] (.c1 .ld1 (.o1 (.fld 0) (.t 10)))),
    (.chk [] (.c1 (.fld 0) (.t 10))),
    (.chk [] (.c1 .ld1 (.o1 (.fld 0) (.t 10)))),
    (.chk [] (.c1 .len (.o1 .ld1 (.o1 (.fld 0) (.t 10))))),
    (.chk [] (.c2 (.mm false) (.o1 .len (.o1 .ld1 (.o1 (.fld 0) (.t 10)))) (.c (.int .i64 500)))),
    (.chk [] (.c2 (.cutHi 4) (.o1 .ld1 (.o1 (.fld 0) (.t 10))) (.o2 (.mm false) (.o1 .len (.o1 .ld1 (.o1 (.fld 0) (.t 10)))) (.c (.int .i64 500))))),
    (.chk [] (.c1 (.fld 0) (.t 10))),
    (.set 32 (.o2 (.cutHi 4) (.o1 .ld1 (.o1 (.fld 0) (.t 10))) (.o2 (.mm false) (.o1 .len (.o1 .ld1 (.o1 (.fld 0) (.t 10)))) (.c (.int .i64 500))))),
    (.eff [] none (.store 1) [(.o1 (.fld 0) (.t 10)), (.t 32)] [])]) (.seq (.sts [(.chk [] (.c1 (.ldn 4) (.t 8))),
    (.set 34 (.o1 (.ldn 4) (.t 8))),
    (.eff [] (some 35) (.bsl 31 4 1 [(str []), (.slice none 0 0), (.int .i64 0), (.slice none 0 0)] [0]) [(.t 34)] []),
    (.chk [] (.c1 (.fld 0) (.t 10))),
    (.chk [] (.c1 .ld1 (.o1 (.fld 0) (.t 10)))),
    (.set 37 (.o1 .ld1 (.o1 (.fld 0) (.t 10)))),
    (.eff [] (some 38) (.app 31 4 72 [(str []), (.slice none 0 0), (.int .i64 0), (.slice none 0 0)]) [(.t 35), (.t 37)] []),
    (.chk [] (.c1 (.fld 0) (.t 10))),
    (.eff [] none (.store 1) [(.o1 (.fld 0) (.t 10)), (.t 38)] [])]) (.seq (.sts [(.chk [] (.c1 (.ldn 4) (.t 8))),
    (.set 40 (.o1 (.ldn 4) (.t 8))),
    (.eff [] (some 41) (.call 5) [(.t 40)] []),
    (.chk [] (.c2 (.bin .eql) (.t 41) (.c (str [])))),
    (.chk [((.o2 (.bin .eql) (.t 41) (.c (str []))), true)] (.c1 (.ldn 1) (.t 10))),
    (.set 44 (.o1 (.ldn 1) (.t 10))),
    (.eff [((.o2 (.bin .eql) (.t 41) (.c (str []))), true)] (some 45) (.call 9) [(.t 44)] []),
    (.chk [((.o2 (.bin .eql) (.t 41) (.c (str []))), true)] (.c2 (.bin .eql) (.t 45) (.t 9))),
    (.chk [] (.c3 .pick (.o2 (.bin .eql) (.t 41) (.c (str []))) (.o2 (.bin .eql) (.t 45) (.t 9)) (.c (.bool false)))),
    (.chk [((.o3 .pick (.o2 (.bin .eql) (.t 41) (.c (str []))) (.o2 (.bin .eql) (.t 45) (.t 9)) (.c (.bool false))), true)] (.c1 (.ldn 1) (.t 10))),
    (.set 50 (.o1 (.ldn 1) (.t 10))),
    (.eff [((.o3 .pick (.o2 (.bin .eql) (.t 41) (.c (str []))) (.o2 (.bin .eql) (.t 45) (.t 9)) (.c (.bool false))), true)] (some 51) (.call 10) [(.t 50)] []),
    (.chk [((.o3 .pick (.o2 (.bin .eql) (.t 41) (.c (str []))) (.o2 (.bin .eql) (.t 45) (.t 9)) (.c (.bool false))), true)] (.c2 (.bin .eql) (.t 51) (.c (str [])))),
    (.chk [] (.c3 .pick (.o3 .pick (.o2 (.bin .eql) (.t 41) (.c (str []))) (.o2 (.bin .eql) (.t 45) (.t 9)) (.c (.bool false))) (.o2 (.bin .eql) (.t 51) (.c (str []))) (.c (.bool false)))),
    (.set 6 (.o3 .pick (.o3 .pick (.o2 (.bin .eql) (.t 41) (.c (str []))) (.o2 (.bin .eql) (.t 45) (.t 9)) (.c (.bool false))) (.o2 (.bin .eql) (.t 51) (.c (str []))) (.c (.bool false))))]) .ret))))))))
def poLaw_E : Res := [(none, (.t 6))]
theorem poLaw_C : Try.f3.body.bind (comp Try.prog poLaw_M Try.f3.ntmps) = some poLaw_S := by kernel_rfl
theorem poLaw_R : resE Try.prog poLaw_M Try.f3.results.toList = some poLaw_E := by kernel_rfl
theorem poLaw_H (G : Ctr) (hG : GOk Try.prog G) (a0 : Value) (a1 : Value) (a2 : Value) {h : H} {K : Value → H → Prop} {KP : List PanicEntry → H → Prop} (Hw : wpS G poLaw_S (retQ poLaw_E (callK K KP)) (envOf 0 [a0, a1, a2] env0) h) : HCX Try.prog 3 [a0, a1, a2] h K KP :=
  .inl ⟨by kernel_rfl, hc_of mixed hG Try.func3 poLaw_C poLaw_R (of_decide_eq_true (by kernel_rfl)) Hw⟩
end Go.Proofs.Ytdaldilmjhdpaaa
