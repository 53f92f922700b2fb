/- The small statements of functions of the program, as the closed computation gives them (written by a program of ours; checked by the kernel below). -/
import Derived.Test.YtkobamedfbgjbaaEvB
import Derived.Test.YtkobamedfbgjbaaProg
import Derived.KernelRfl
import Derived.Test.YtkobamedfbgjbaaWellS
namespace Go.Proofs.Ytkobamedfbgjbaa
open Go Go.Ev
def crNumber_M : Nat → Bool := fun i => Nat.testBit 16627 i
def crNumber_S : S :=
  (.seq (.sts [(.set 4 (.c (.int .i64 0))),
    (.set 5 (.c (.bool false)))]) (.seq (.seq (.sts [(.eff [] (some 11) (.look .string (.int .i64 0) true) [(.t 0), (.t 1)] []),
    (.chk [] (.c1 (.ext 0) (.t 11))),
    (.chk [] (.c1 (.ext 1) (.t 11))),
    (.set 6 (.o1 (.ext 0) (.t 11))),
    (.set 7 (.o1 (.ext 1) (.t 11)))]) (.seq (.sts [(.set 14 (.t 7))]) (.cond 14 (.seq (.sts [(.set 4 (.t 6)),
    (.set 5 (.c (.bool false)))]) .ret) .skip))) (.seq (.sts [(.eff [] (some 19) .lenm [(.t 0)] []),
    (.eff [] none (.mput .string) [(.t 0), (.t 1), (.t 19)] [])]) (.seq (.sts [(.eff [] (some 21) .lenm [(.t 0)] []),
    (.chk [] (.c2 (.bin .sub) (.t 21) (.c (.int .i64 1)))),
    (.set 4 (.o2 (.bin .sub) (.t 21) (.c (.int .i64 1)))),
    (.set 5 (.c (.bool true)))]) .ret))))
def crNumber_E : Res := [(none, (.t 4)), (none, (.t 5))]
theorem crNumber_C : Try.f54.body.bind (comp Try.prog crNumber_M Try.f54.ntmps) = some crNumber_S := by kernel_rfl
theorem crNumber_R : resE Try.prog crNumber_M Try.f54.results.toList = some crNumber_E := by kernel_rfl
theorem crNumber_H (G : Ctr) (hG : GOk Try.prog G) (a0 : Value) (a1 : Value) {h : H} {K : Value → H → Prop} {KP : List PanicEntry → H → Prop} (Hw : wpS G crNumber_S (retQ crNumber_E (callK K KP)) (envOf 0 [a0, a1] env0) h) : HCX Try.prog 54 [a0, a1] h K KP :=
  .inl ⟨by kernel_rfl, hc_of mixed hG Try.func54 crNumber_C crNumber_R (of_decide_eq_true (by kernel_rfl)) Hw⟩
def crVars_M : Nat → Bool := fun i => Nat.testBit 17594460468573 i
def crVars_L2 : S :=
  (.seq (.sts [(.chk [] (.c2 (.bin .lss) (.t 25) (.t 24))),
    (.set 26 (.o2 (.bin .lss) (.t 25) (.t 24)))]) (.seq (.cond 26 .skip (.exit 2)) (.seq (.block 3 (.seq (.sts [(.chk [] (.c2 (.idxA 4) (.t 23) (.t 25))),
    (.chk [] (.c1 (.ldn 4) (.o2 (.idxA 4) (.t 23) (.t 25)))),
    (.set 28 (.o1 (.ldn 4) (.o2 (.idxA 4) (.t 23) (.t 25)))),
    (.eff [] (some 8) (.alloc 94 #[(.int .i64 0), (.int .i64 0), (str []), (.int .i64 0)]) [] []),
    (.eff [] none (.store 4) [(.t 8), (.t 28)] [])]) (.seq (.seq (.sts [(.chk [] (.c1 (.fld 0) (.t 8))),
    (.chk [] (.c1 .ld1 (.o1 (.fld 0) (.t 8)))),
    (.chk [] (.c2 (.bin .neq) (.o1 .ld1 (.o1 (.fld 0) (.t 8))) (.c (.int .i64 4)))),
    (.set 31 (.o2 (.bin .neq) (.o1 .ld1 (.o1 (.fld 0) (.t 8))) (.c (.int .i64 4))))]) (.cond 31 (.exit 3) .skip)) (.seq (.sts [(.chk [] (.c1 (.fld 2) (.t 8))),
    (.chk [] (.c1 .ld1 (.o1 (.fld 2) (.t 8)))),
    (.set 35 (.o1 .ld1 (.o1 (.fld 2) (.t 8)))),
    (.eff [] (some 36) (.call 54) [(.t 4), (.t 35)] []),
    (.chk [] (.c1 (.ext 0) (.t 36))),
    (.chk [] (.c1 (.ext 1) (.t 36))),
    (.set 10 (.o1 (.ext 1) (.t 36)))]) (.seq (.sts [(.chk [((.t 10), false)] (.c1 (.fld 2) (.t 8))),
    (.chk [((.t 10), false)] (.c1 .ld1 (.o1 (.fld 2) (.t 8)))),
    (.chk [((.t 10), false)] (.c2 (.bin .eql) (.o1 .ld1 (.o1 (.fld 2) (.t 8))) (.c (str [95])))),
    (.chk [] (.c3 .pick (.t 10) (.c (.bool true)) (.o2 (.bin .eql) (.o1 .ld1 (.o1 (.fld 2) (.t 8))) (.c (str [95]))))),
    (.set 44 (.o3 .pick (.t 10) (.c (.bool true)) (.o2 (.bin .eql) (.o1 .ld1 (.o1 (.fld 2) (.t 8))) (.c (str [95])))))]) (.cond 44 (.sts [(.chk [] (.c1 (.fld 2) (.t 8))),
    (.chk [] (.c1 .ld1 (.o1 (.fld 2) (.t 8)))),
    (.set 47 (.o1 .ld1 (.o1 (.fld 2) (.t 8)))),
    (.eff [] (some 48) (.bsl 9 1 1 [(str [])] [0]) [(.t 47)] []),
    (.eff [] (some 49) (.app 9 1 16 [(str [])]) [(.t 3), (.t 48)] []),
    (.set 3 (.t 49))]) .skip)))))) (.sts [(.chk [] (.c2 (.bin .add) (.t 25) (.c (.int .i64 1)))),
    (.set 50 (.o2 (.bin .add) (.t 25) (.c (.int .i64 1)))),
    (.set 25 (.t 50))]))))
def crVars_L1 : S :=
  (.seq (.sts [(.chk [] (.c2 (.bin .lss) (.t 14) (.t 13))),
    (.set 15 (.o2 (.bin .lss) (.t 14) (.t 13)))]) (.seq (.cond 15 .skip (.exit 0)) (.seq (.block 1 (.seq (.sts [(.chk [] (.c2 (.idxA 14) (.t 12) (.t 14))),
    (.chk [] (.c1 (.ldn 14) (.o2 (.idxA 14) (.t 12) (.t 14)))),
    (.set 17 (.o1 (.ldn 14) (.o2 (.idxA 14) (.t 12) (.t 14)))),
    (.eff [] (some 6) (.alloc 109 #[(.int .i64 0), (str []), (.slice none 0 0), (.int .i64 0), (.int .i64 0), (.int .i64 0), (.int .i64 0), (str []), (.int .i64 0), (.int .i64 0), (.int .i64 0), (str []), (.int .i64 0), (.int .i64 0)]) [] []),
    (.eff [] none (.store 14) [(.t 6), (.t 17)] [])]) (.seq (.seq (.sts [(.chk [] (.c1 (.fld 0) (.t 6))),
    (.chk [] (.c1 .ld1 (.o1 (.fld 0) (.t 6)))),
    (.chk [] (.c2 (.bin .neq) (.o1 .ld1 (.o1 (.fld 0) (.t 6))) (.c (.int .i64 1)))),
    (.set 20 (.o2 (.bin .neq) (.o1 .ld1 (.o1 (.fld 0) (.t 6))) (.c (.int .i64 1))))]) (.cond 20 (.exit 1) .skip)) (.seq (.sts [(.chk [] (.c1 (.fld 1) (.t 6))),
    (.chk [] (.c1 (.fld 1) (.o1 (.fld 1) (.t 6)))),
    (.chk [] (.c1 .ld1 (.o1 (.fld 1) (.o1 (.fld 1) (.t 6))))),
    (.set 23 (.o1 .ld1 (.o1 (.fld 1) (.o1 (.fld 1) (.t 6))))),
    (.chk [] (.c1 .len (.t 23))),
    (.set 24 (.o1 .len (.t 23))),
    (.set 25 (.c (.int .i64 0)))]) (.block 2 (.loop crVars_L2)))))) (.sts [(.chk [] (.c2 (.bin .add) (.t 14) (.c (.int .i64 1)))),
    (.set 51 (.o2 (.bin .add) (.t 14) (.c (.int .i64 1)))),
    (.set 14 (.t 51))]))))
def crVars_S : S :=
  (.seq (.sts [(.set 2 (.c (.slice none 0 0)))]) (.seq (.sts [(.set 3 (.c (.slice none 0 0)))]) (.seq (.sts [(.eff [] (some 11) .mkm [] []),
    (.set 4 (.t 11))]) (.seq (.seq (.sts [(.set 12 (.t 0)),
    (.chk [] (.c1 .len (.t 12))),
    (.set 13 (.o1 .len (.t 12))),
    (.set 14 (.c (.int .i64 0)))]) (.block 0 (.loop crVars_L1))) (.seq (.sts [(.set 2 (.t 3))]) .ret)))))
def crVars_E : Res := [(none, (.t 2))]
theorem crVars_C : Try.f59.body.bind (comp Try.prog crVars_M Try.f59.ntmps) = some crVars_S := by kernel_rfl
theorem crVars_R : resE Try.prog crVars_M Try.f59.results.toList = some crVars_E := by kernel_rfl
theorem crVars_H (G : Ctr) (hG : GOk Try.prog G) (a0 : Value) {h : H} {K : Value → H → Prop} {KP : List PanicEntry → H → Prop} (Hw : wpS G crVars_S (retQ crVars_E (callK K KP)) (envOf 0 [a0] env0) h) : HCX Try.prog 59 [a0] h K KP :=
  .inl ⟨by kernel_rfl, hc_of mixed hG Try.func59 crVars_C crVars_R (of_decide_eq_true (by kernel_rfl)) Hw⟩
def crTerms_M : Nat → Bool := fun i => Nat.testBit 4219885 i
def crTerms_L1 : S :=
  (.seq (.sts [(.chk [] (.c2 (.bin .lss) (.t 8) (.t 7))),
    (.set 9 (.o2 (.bin .lss) (.t 8) (.t 7)))]) (.seq (.cond 9 .skip (.exit 0)) (.seq (.block 1 (.seq (.sts [(.chk [] (.c2 (.idxA 14) (.t 6) (.t 8))),
    (.chk [] (.c1 (.ldn 14) (.o2 (.idxA 14) (.t 6) (.t 8)))),
    (.set 11 (.o1 (.ldn 14) (.o2 (.idxA 14) (.t 6) (.t 8)))),
    (.eff [] (some 5) (.alloc 109 #[(.int .i64 0), (str []), (.slice none 0 0), (.int .i64 0), (.int .i64 0), (.int .i64 0), (.int .i64 0), (str []), (.int .i64 0), (.int .i64 0), (.int .i64 0), (str []), (.int .i64 0), (.int .i64 0)]) [] []),
    (.eff [] none (.store 14) [(.t 5), (.t 11)] [])]) (.seq (.sts [(.chk [] (.c1 (.fld 0) (.t 5))),
    (.chk [] (.c1 .ld1 (.o1 (.fld 0) (.t 5)))),
    (.set 13 (.o1 .ld1 (.o1 (.fld 0) (.t 5))))]) (.block 2 (.seq (.seq (.sts [(.chk [] (.c2 (.bin .eql) (.t 13) (.c (.int .i64 1)))),
    (.set 14 (.o2 (.bin .eql) (.t 13) (.c (.int .i64 1))))]) (.cond 14 .skip (.sts [(.chk [] (.c2 (.bin .eql) (.t 13) (.c (.int .i64 2)))),
    (.set 14 (.o2 (.bin .eql) (.t 13) (.c (.int .i64 2))))]))) (.cond 14 (.sts [(.chk [] (.c1 (.fld 1) (.t 5))),
    (.chk [] (.c1 (.fld 1) (.o1 (.fld 1) (.t 5)))),
    (.chk [] (.c1 .ld1 (.o1 (.fld 1) (.o1 (.fld 1) (.t 5))))),
    (.set 20 (.o1 .ld1 (.o1 (.fld 1) (.o1 (.fld 1) (.t 5))))),
    (.eff [] (some 21) (.app 94 4 40 [(.int .i64 0), (.int .i64 0), (str []), (.int .i64 0)]) [(.t 3), (.t 20)] []),
    (.set 3 (.t 21))]) (.seq (.sts [(.chk [] (.c2 (.bin .eql) (.t 13) (.c (.int .i64 3)))),
    (.set 22 (.o2 (.bin .eql) (.t 13) (.c (.int .i64 3))))]) (.cond 22 (.sts [(.chk [] (.c1 (.fld 5) (.t 5))),
    (.chk [] (.c1 (.ldn 4) (.o1 (.fld 5) (.t 5)))),
    (.chk [] (.c1 (.fld 9) (.t 5))),
    (.chk [] (.c1 (.ldn 4) (.o1 (.fld 9) (.t 5)))),
    (.set 28 (.o1 (.ldn 4) (.o1 (.fld 9) (.t 5)))),
    (.set 26 (.o1 (.ldn 4) (.o1 (.fld 5) (.t 5)))),
    (.eff [] (some 29) (.bsl 94 4 2 [(.int .i64 0), (.int .i64 0), (str []), (.int .i64 0), (.int .i64 0), (.int .i64 0), (str []), (.int .i64 0)] [0, 1]) [(.t 26), (.t 28)] []),
    (.eff [] (some 30) (.app 94 4 40 [(.int .i64 0), (.int .i64 0), (str []), (.int .i64 0)]) [(.t 3), (.t 29)] []),
    (.set 3 (.t 30))]) .skip)))))))) (.sts [(.chk [] (.c2 (.bin .add) (.t 8) (.c (.int .i64 1)))),
    (.set 31 (.o2 (.bin .add) (.t 8) (.c (.int .i64 1)))),
    (.set 8 (.t 31))]))))
def crTerms_S : S :=
  (.seq (.sts [(.set 2 (.c (.slice none 0 0)))]) (.seq (.sts [(.set 3 (.c (.slice none 0 0)))]) (.seq (.seq (.sts [(.set 6 (.t 0)),
    (.chk [] (.c1 .len (.t 6))),
    (.set 7 (.o1 .len (.t 6))),
    (.set 8 (.c (.int .i64 0)))]) (.block 0 (.loop crTerms_L1))) (.seq (.sts [(.set 2 (.t 3))]) .ret))))
def crTerms_E : Res := [(none, (.t 2))]
theorem crTerms_C : Try.f57.body.bind (comp Try.prog crTerms_M Try.f57.ntmps) = some crTerms_S := by kernel_rfl
theorem crTerms_R : resE Try.prog crTerms_M Try.f57.results.toList = some crTerms_E := by kernel_rfl
theorem crTerms_H (G : Ctr) (hG : GOk Try.prog G) (a0 : Value) {h : H} {K : Value → H → Prop} {KP : List PanicEntry → H → Prop} (Hw : wpS G crTerms_S (retQ crTerms_E (callK K KP)) (envOf 0 [a0] env0) h) : HCX Try.prog 57 [a0] h K KP :=
  .inl ⟨by kernel_rfl, hc_of mixed hG Try.func57 crTerms_C crTerms_R (of_decide_eq_true (by kernel_rfl)) Hw⟩
def crAsked_M : Nat → Bool := fun i => Nat.testBit 17389 i
def crAsked_L1 : S :=
  (.seq (.sts [(.chk [] (.c2 (.bin .lss) (.t 8) (.t 7))),
    (.set 9 (.o2 (.bin .lss) (.t 8) (.t 7)))]) (.seq (.cond 9 .skip (.exit 0)) (.seq (.block 1 (.seq (.sts [(.chk [] (.c2 (.idxA 14) (.t 6) (.t 8))),
    (.chk [] (.c1 (.ldn 14) (.o2 (.idxA 14) (.t 6) (.t 8)))),
    (.set 11 (.o1 (.ldn 14) (.o2 (.idxA 14) (.t 6) (.t 8)))),
    (.eff [] (some 5) (.alloc 109 #[(.int .i64 0), (str []), (.slice none 0 0), (.int .i64 0), (.int .i64 0), (.int .i64 0), (.int .i64 0), (str []), (.int .i64 0), (.int .i64 0), (.int .i64 0), (str []), (.int .i64 0), (.int .i64 0)]) [] []),
    (.eff [] none (.store 14) [(.t 5), (.t 11)] [])]) (.seq (.sts [(.chk [] (.c1 (.fld 0) (.t 5))),
    (.chk [] (.c1 .ld1 (.o1 (.fld 0) (.t 5)))),
    (.chk [] (.c2 (.bin .neq) (.o1 .ld1 (.o1 (.fld 0) (.t 5))) (.c (.int .i64 1)))),
    (.set 14 (.o2 (.bin .neq) (.o1 .ld1 (.o1 (.fld 0) (.t 5))) (.c (.int .i64 1))))]) (.cond 14 (.sts [(.chk [] (.c1 (.ldn 14) (.t 5))),
    (.set 16 (.o1 (.ldn 14) (.t 5))),
    (.eff [] (some 17) (.bsl 109 14 1 [(.int .i64 0), (str []), (.slice none 0 0), (.int .i64 0), (.int .i64 0), (.int .i64 0), (.int .i64 0), (str []), (.int .i64 0), (.int .i64 0), (.int .i64 0), (str []), (.int .i64 0), (.int .i64 0)] [0]) [(.t 16)] []),
    (.eff [] (some 18) (.app 109 14 152 [(.int .i64 0), (str []), (.slice none 0 0), (.int .i64 0), (.int .i64 0), (.int .i64 0), (.int .i64 0), (str []), (.int .i64 0), (.int .i64 0), (.int .i64 0), (str []), (.int .i64 0), (.int .i64 0)]) [(.t 3), (.t 17)] []),
    (.set 3 (.t 18))]) .skip)))) (.sts [(.chk [] (.c2 (.bin .add) (.t 8) (.c (.int .i64 1)))),
    (.set 19 (.o2 (.bin .add) (.t 8) (.c (.int .i64 1)))),
    (.set 8 (.t 19))]))))
def crAsked_S : S :=
  (.seq (.sts [(.set 2 (.c (.slice none 0 0)))]) (.seq (.sts [(.set 3 (.c (.slice none 0 0)))]) (.seq (.seq (.sts [(.set 6 (.t 0)),
    (.chk [] (.c1 .len (.t 6))),
    (.set 7 (.o1 .len (.t 6))),
    (.set 8 (.c (.int .i64 0)))]) (.block 0 (.loop crAsked_L1))) (.seq (.sts [(.eff [] (some 21) (.call 57) [(.t 3)] []),
    (.set 2 (.t 21))]) .ret))))
def crAsked_E : Res := [(none, (.t 2))]
theorem crAsked_C : Try.f52.body.bind (comp Try.prog crAsked_M Try.f52.ntmps) = some crAsked_S := by kernel_rfl
theorem crAsked_R : resE Try.prog crAsked_M Try.f52.results.toList = some crAsked_E := by kernel_rfl
theorem crAsked_H (G : Ctr) (hG : GOk Try.prog G) (a0 : Value) {h : H} {K : Value → H → Prop} {KP : List PanicEntry → H → Prop} (Hw : wpS G crAsked_S (retQ crAsked_E (callK K KP)) (envOf 0 [a0] env0) h) : HCX Try.prog 52 [a0] h K KP :=
  .inl ⟨by kernel_rfl, hc_of mixed hG Try.func52 crAsked_C crAsked_R (of_decide_eq_true (by kernel_rfl)) Hw⟩
def crUnb_M : Nat → Bool := fun i => Nat.testBit 4398078030771 i
def crUnb_L1 : S :=
  (.seq (.sts [(.chk [] (.c2 (.bin .lss) (.t 14) (.t 13))),
    (.set 15 (.o2 (.bin .lss) (.t 14) (.t 13)))]) (.seq (.cond 15 .skip (.exit 0)) (.seq (.block 1 (.seq (.sts [(.chk [] (.c2 (.idxA 1) (.t 12) (.t 14))),
    (.chk [] (.c1 .ld1 (.o2 (.idxA 1) (.t 12) (.t 14)))),
    (.set 7 (.o1 .ld1 (.o2 (.idxA 1) (.t 12) (.t 14))))]) (.sts [(.eff [] none (.mput .string) [(.t 5), (.t 7), (.c (.int .i64 1))] [])]))) (.sts [(.chk [] (.c2 (.bin .add) (.t 14) (.c (.int .i64 1)))),
    (.set 20 (.o2 (.bin .add) (.t 14) (.c (.int .i64 1)))),
    (.set 14 (.t 20))]))))
def crUnb_L2 : S :=
  (.seq (.sts [(.chk [] (.c2 (.bin .lss) (.t 23) (.t 22))),
    (.set 24 (.o2 (.bin .lss) (.t 23) (.t 22)))]) (.seq (.cond 24 .skip (.exit 2)) (.seq (.block 3 (.seq (.sts [(.chk [] (.c2 (.idxA 4) (.t 21) (.t 23))),
    (.chk [] (.c1 (.ldn 4) (.o2 (.idxA 4) (.t 21) (.t 23)))),
    (.set 27 (.o1 (.ldn 4) (.o2 (.idxA 4) (.t 21) (.t 23)))),
    (.eff [] (some 9) (.alloc 94 #[(.int .i64 0), (.int .i64 0), (str []), (.int .i64 0)]) [] []),
    (.set 8 (.t 23)),
    (.eff [] none (.store 4) [(.t 9), (.t 27)] [])]) (.seq (.sts [(.chk [] (.c1 (.fld 0) (.t 9))),
    (.chk [] (.c1 .ld1 (.o1 (.fld 0) (.t 9)))),
    (.chk [] (.c2 (.bin .eql) (.o1 .ld1 (.o1 (.fld 0) (.t 9))) (.c (.int .i64 4)))),
    (.chk [((.o2 (.bin .eql) (.o1 .ld1 (.o1 (.fld 0) (.t 9))) (.c (.int .i64 4))), true)] (.c1 (.fld 2) (.t 9))),
    (.chk [((.o2 (.bin .eql) (.o1 .ld1 (.o1 (.fld 0) (.t 9))) (.c (.int .i64 4))), true)] (.c1 .ld1 (.o1 (.fld 2) (.t 9)))),
    (.chk [((.o2 (.bin .eql) (.o1 .ld1 (.o1 (.fld 0) (.t 9))) (.c (.int .i64 4))), true)] (.c2 (.bin .eql) (.o1 .ld1 (.o1 (.fld 2) (.t 9))) (.c (str [95])))),
    (.chk [((.o2 (.bin .eql) (.o1 .ld1 (.o1 (.fld 2) (.t 9))) (.c (str [95]))), false), ((.o2 (.bin .eql) (.o1 .ld1 (.o1 (.fld 0) (.t 9))) (.c (.int .i64 4))), true)] (.c1 (.fld 2) (.t 9))),
    (.chk [((.o2 (.bin .eql) (.o1 .ld1 (.o1 (.fld 2) (.t 9))) (.c (str [95]))), false), ((.o2 (.bin .eql) (.o1 .ld1 (.o1 (.fld 0) (.t 9))) (.c (.int .i64 4))), true)] (.c1 .ld1 (.o1 (.fld 2) (.t 9)))),
    (.set 38 (.o1 .ld1 (.o1 (.fld 2) (.t 9)))),
    (.set 35 (.o2 (.bin .eql) (.o1 .ld1 (.o1 (.fld 2) (.t 9))) (.c (str [95])))),
    (.set 31 (.o2 (.bin .eql) (.o1 .ld1 (.o1 (.fld 0) (.t 9))) (.c (.int .i64 4)))),
    (.eff [((.t 35), false), ((.t 31), true)] (some 39) (.look .string (.int .i64 0) false) [(.t 5), (.t 38)] []),
    (.chk [((.t 35), false), ((.t 31), true)] (.c2 (.bin .eql) (.t 39) (.c (.int .i64 0)))),
    (.chk [((.t 31), true)] (.c3 .pick (.t 35) (.c (.bool true)) (.o2 (.bin .eql) (.t 39) (.c (.int .i64 0))))),
    (.chk [] (.c3 .pick (.t 31) (.o3 .pick (.t 35) (.c (.bool true)) (.o2 (.bin .eql) (.t 39) (.c (.int .i64 0)))) (.c (.bool false)))),
    (.set 42 (.o3 .pick (.t 31) (.o3 .pick (.t 35) (.c (.bool true)) (.o2 (.bin .eql) (.t 39) (.c (.int .i64 0)))) (.c (.bool false))))]) (.cond 42 (.seq (.sts [(.set 4 (.t 8))]) .ret) .skip)))) (.sts [(.chk [] (.c2 (.bin .add) (.t 23) (.c (.int .i64 1)))),
    (.set 44 (.o2 (.bin .add) (.t 23) (.c (.int .i64 1)))),
    (.set 23 (.t 44))]))))
def crUnb_S : S :=
  (.seq (.sts [(.set 4 (.c (.int .i64 0)))]) (.seq (.sts [(.eff [] (some 10) .mkm [] []),
    (.set 5 (.t 10))]) (.seq (.seq (.sts [(.eff [] (some 12) (.call 59) [(.t 1)] []),
    (.chk [] (.c1 .len (.t 12))),
    (.set 13 (.o1 .len (.t 12))),
    (.set 14 (.c (.int .i64 0)))]) (.block 0 (.loop crUnb_L1))) (.seq (.seq (.sts [(.set 21 (.t 0)),
    (.chk [] (.c1 .len (.t 21))),
    (.set 22 (.o1 .len (.t 21))),
    (.set 23 (.c (.int .i64 0)))]) (.block 2 (.loop crUnb_L2))) (.seq (.sts [(.set 4 (.c (.int .i64 (-1))))]) .ret)))))
def crUnb_E : Res := [(none, (.t 4))]
theorem crUnb_C : Try.f53.body.bind (comp Try.prog crUnb_M Try.f53.ntmps) = some crUnb_S := by kernel_rfl
theorem crUnb_R : resE Try.prog crUnb_M Try.f53.results.toList = some crUnb_E := by kernel_rfl
theorem crUnb_H (G : Ctr) (hG : GOk Try.prog G) (a0 : Value) (a1 : Value) {h : H} {K : Value → H → Prop} {KP : List PanicEntry → H → Prop} (Hw : wpS G crUnb_S (retQ crUnb_E (callK K KP)) (envOf 0 [a0, a1] env0) h) : HCX Try.prog 53 [a0, a1] h K KP :=
  .inl ⟨by kernel_rfl, hc_of mixed hG Try.func53 crUnb_C crUnb_R (of_decide_eq_true (by kernel_rfl)) Hw⟩
end Go.Proofs.Ytkobamedfbgjbaa
