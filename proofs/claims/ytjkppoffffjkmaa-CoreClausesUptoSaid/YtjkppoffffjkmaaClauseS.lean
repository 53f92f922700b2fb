/- The small statements of functions of the program, as the closed computation gives them (written by a program of ours; checked by the kernel below). -/
import Derived.Test.YtjkppoffffjkmaaEvB
import Derived.Test.YtjkppoffffjkmaaProg
import Derived.KernelRfl
namespace Go.Proofs.Ytjkppoffffjkmaa
open Go Go.Ev
theorem mixed : Try.prog.follows .mixedOrders = true := by kernel_rfl
def crNumber_M : Nat → Bool := fun i => Nat.testBit 16627 i
def crNumber_S : S :=
  (.seq (.sts [(.set 4 (.c (.int .i64 0))),
    (.set 5 (.c (.bool false)))]) (.seq (.seq (.sts [(.eff [] (some 11) (.look .string (.int .i64 0) true) [(.t 0), (.t 1)] []),
    (.chk [] (.c1 (.ext 0) (.t 11))),
    (.chk [] (.c1 (.ext 1) (.t 11))),
    (.set 6 (.o1 (.ext 0) (.t 11))),
    (.set 7 (.o1 (.ext 1) (.t 11)))]) (.seq (.sts [(.set 14 (.t 7))]) (.cond 14 (.seq (.sts [(.set 4 (.t 6)),
    (.set 5 (.c (.bool false)))]) .ret) .skip))) (.seq (.sts [(.eff [] (some 19) .lenm [(.t 0)] []),
    (.eff [] none (.mput .string) [(.t 0), (.t 1), (.t 19)] [])]) (.seq (.sts [(.eff [] (some 21) .lenm [(.t 0)] []),
    (.chk [] (.c2 (.bin .sub) (.t 21) (.c (.int .i64 1)))),
    (.set 4 (.o2 (.bin .sub) (.t 21) (.c (.int .i64 1)))),
    (.set 5 (.c (.bool true)))]) .ret))))
def crNumber_E : Res := [(none, (.t 4)), (none, (.t 5))]
theorem crNumber_C : Try.f22.body.bind (comp Try.prog crNumber_M Try.f22.ntmps) = some crNumber_S := by kernel_rfl
theorem crNumber_R : resE Try.prog crNumber_M Try.f22.results.toList = some crNumber_E := by kernel_rfl
theorem crNumber_H (G : Ctr) (hG : GOk Try.prog G) (a0 : Value) (a1 : Value) {h : H} {K : Value → H → Prop} {KP : List PanicEntry → H → Prop} (Hw : wpS G crNumber_S (retQ crNumber_E (callK K KP)) (envOf 0 [a0, a1] env0) h) : HCX Try.prog 22 [a0, a1] h K KP :=
  .inl ⟨by kernel_rfl, hc_of mixed hG Try.func22 crNumber_C crNumber_R (of_decide_eq_true (by kernel_rfl)) Hw⟩
def crVars_M : Nat → Bool := fun i => Nat.testBit 17594460468573 i
def crVars_L2 : S :=
  (.seq (.sts [(.chk [] (.c2 (.bin .lss) (.t 25) (.t 24))),
    (.set 26 (.o2 (.bin .lss) (.t 25) (.t 24)))]) (.seq (.cond 26 .skip (.exit 2)) (.seq (.block 3 (.seq (.sts [(.chk [] (.c2 (.idxA 4) (.t 23) (.t 25))),
    (.chk [] (.c1 (.ldn 4) (.o2 (.idxA 4) (.t 23) (.t 25)))),
    (.set 28 (.o1 (.ldn 4) (.o2 (.idxA 4) (.t 23) (.t 25)))),
    (.eff [] (some 8) (.alloc 66 #[(.int .i64 0), (.int .i64 0), (str []), (.int .i64 0)]) [] []),
    (.eff [] none (.store 4) [(.t 8), (.t 28)] [])]) (.seq (.seq (.sts [(.chk [] (.c1 (.fld 0) (.t 8))),
    (.chk [] (.c1 .ld1 (.o1 (.fld 0) (.t 8)))),
    (.chk [] (.c2 (.bin .neq) (.o1 .ld1 (.o1 (.fld 0) (.t 8))) (.c (.int .i64 4)))),
    (.set 31 (.o2 (.bin .neq) (.o1 .ld1 (.o1 (.fld 0) (.t 8))) (.c (.int .i64 4))))]) (.cond 31 (.exit 3) .skip)) (.seq (.sts [(.chk [] (.c1 (.fld 2) (.t 8))),
    (.chk [] (.c1 .ld1 (.o1 (.fld 2) (.t 8)))),
    (.set 35 (.o1 .ld1 (.o1 (.fld 2) (.t 8)))),
    (.eff [] (some 36) (.call 22) [(.t 4), (.t 35)] []),
    (.chk [] (.c1 (.ext 0) (.t 36))),
    (.chk [] (.c1 (.ext 1) (.t 36))),
    (.set 10 (.o1 (.ext 1) (.t 36)))]) (.seq (.sts [(.chk [((.t 10), false)] (.c1 (.fld 2) (.t 8))),
    (.chk [((.t 10), false)] (.c1 .ld1 (.o1 (.fld 2) (.t 8)))),
    (.chk [((.t 10), false)] (.c2 (.bin .eql) (.o1 .ld1 (.o1 (.fld 2) (.t 8))) (.c (str [95])))),
    (.chk [] (.c3 .pick (.t 10) (.c (.bool true)) (.o2 (.bin .eql) (.o1 .ld1 (.o1 (.fld 2) (.t 8))) (.c (str [95]))))),
    (.set 44 (.o3 .pick (.t 10) (.c (.bool true)) (.o2 (.bin .eql) (.o1 .ld1 (.o1 (.fld 2) (.t 8))) (.c (str [95])))))]) (.cond 44 (.sts [(.chk [] (.c1 (.fld 2) (.t 8))),
    (.chk [] (.c1 .ld1 (.o1 (.fld 2) (.t 8)))),
    (.set 47 (.o1 .ld1 (.o1 (.fld 2) (.t 8)))),
    (.eff [] (some 48) (.bsl 9 1 1 [(str [])] [0]) [(.t 47)] []),
    (.eff [] (some 49) (.app 9 1 16 [(str [])]) [(.t 3), (.t 48)] []),
    (.set 3 (.t 49))]) .skip)))))) (.sts [(.chk [] (.c2 (.bin .add) (.t 25) (.c (.int .i64 1)))),
    (.set 50 (.o2 (.bin .add) (.t 25) (.c (.int .i64 1)))),
    (.set 25 (.t 50))]))))
def crVars_L1 : S :=
  (.seq (.sts [(.chk [] (.c2 (.bin .lss) (.t 14) (.t 13))),
    (.set 15 (.o2 (.bin .lss) (.t 14) (.t 13)))]) (.seq (.cond 15 .skip (.exit 0)) (.seq (.block 1 (.seq (.sts [(.chk [] (.c2 (.idxA 14) (.t 12) (.t 14))),
    (.chk [] (.c1 (.ldn 14) (.o2 (.idxA 14) (.t 12) (.t 14)))),
    (.set 17 (.o1 (.ldn 14) (.o2 (.idxA 14) (.t 12) (.t 14)))),
    (.eff [] (some 6) (.alloc 68 #[(.int .i64 0), (str []), (.slice none 0 0), (.int .i64 0), (.int .i64 0), (.int .i64 0), (.int .i64 0), (str []), (.int .i64 0), (.int .i64 0), (.int .i64 0), (str []), (.int .i64 0), (.int .i64 0)]) [] []),
    (.eff [] none (.store 14) [(.t 6), (.t 17)] [])]) (.seq (.seq (.sts [(.chk [] (.c1 (.fld 0) (.t 6))),
    (.chk [] (.c1 .ld1 (.o1 (.fld 0) (.t 6)))),
    (.chk [] (.c2 (.bin .neq) (.o1 .ld1 (.o1 (.fld 0) (.t 6))) (.c (.int .i64 1)))),
    (.set 20 (.o2 (.bin .neq) (.o1 .ld1 (.o1 (.fld 0) (.t 6))) (.c (.int .i64 1))))]) (.cond 20 (.exit 1) .skip)) (.seq (.sts [(.chk [] (.c1 (.fld 1) (.t 6))),
    (.chk [] (.c1 (.fld 1) (.o1 (.fld 1) (.t 6)))),
    (.chk [] (.c1 .ld1 (.o1 (.fld 1) (.o1 (.fld 1) (.t 6))))),
    (.set 23 (.o1 .ld1 (.o1 (.fld 1) (.o1 (.fld 1) (.t 6))))),
    (.chk [] (.c1 .len (.t 23))),
    (.set 24 (.o1 .len (.t 23))),
    (.set 25 (.c (.int .i64 0)))]) (.block 2 (.loop crVars_L2)))))) (.sts [(.chk [] (.c2 (.bin .add) (.t 14) (.c (.int .i64 1)))),
    (.set 51 (.o2 (.bin .add) (.t 14) (.c (.int .i64 1)))),
    (.set 14 (.t 51))]))))
def crVars_S : S :=
  (.seq (.sts [(.set 2 (.c (.slice none 0 0)))]) (.seq (.sts [(.set 3 (.c (.slice none 0 0)))]) (.seq (.sts [(.eff [] (some 11) .mkm [] []),
    (.set 4 (.t 11))]) (.seq (.seq (.sts [(.set 12 (.t 0)),
    (.chk [] (.c1 .len (.t 12))),
    (.set 13 (.o1 .len (.t 12))),
    (.set 14 (.c (.int .i64 0)))]) (.block 0 (.loop crVars_L1))) (.seq (.sts [(.set 2 (.t 3))]) .ret)))))
def crVars_E : Res := [(none, (.t 2))]
theorem crVars_C : Try.f12.body.bind (comp Try.prog crVars_M Try.f12.ntmps) = some crVars_S := by kernel_rfl
theorem crVars_R : resE Try.prog crVars_M Try.f12.results.toList = some crVars_E := by kernel_rfl
theorem crVars_H (G : Ctr) (hG : GOk Try.prog G) (a0 : Value) {h : H} {K : Value → H → Prop} {KP : List PanicEntry → H → Prop} (Hw : wpS G crVars_S (retQ crVars_E (callK K KP)) (envOf 0 [a0] env0) h) : HCX Try.prog 12 [a0] h K KP :=
  .inl ⟨by kernel_rfl, hc_of mixed hG Try.func12 crVars_C crVars_R (of_decide_eq_true (by kernel_rfl)) Hw⟩
def crTerms_M : Nat → Bool := fun i => Nat.testBit 4219885 i
def crTerms_L1 : S :=
  (.seq (.sts [(.chk [] (.c2 (.bin .lss) (.t 8) (.t 7))),
    (.set 9 (.o2 (.bin .lss) (.t 8) (.t 7)))]) (.seq (.cond 9 .skip (.exit 0)) (.seq (.block 1 (.seq (.sts [(.chk [] (.c2 (.idxA 14) (.t 6) (.t 8))),
    (.chk [] (.c1 (.ldn 14) (.o2 (.idxA 14) (.t 6) (.t 8)))),
    (.set 11 (.o1 (.ldn 14) (.o2 (.idxA 14) (.t 6) (.t 8)))),
    (.eff [] (some 5) (.alloc 68 #[(.int .i64 0), (str []), (.slice none 0 0), (.int .i64 0), (.int .i64 0), (.int .i64 0), (.int .i64 0), (str []), (.int .i64 0), (.int .i64 0), (.int .i64 0), (str []), (.int .i64 0), (.int .i64 0)]) [] []),
    (.eff [] none (.store 14) [(.t 5), (.t 11)] [])]) (.seq (.sts [(.chk [] (.c1 (.fld 0) (.t 5))),
    (.chk [] (.c1 .ld1 (.o1 (.fld 0) (.t 5)))),
    (.set 13 (.o1 .ld1 (.o1 (.fld 0) (.t 5))))]) (.block 2 (.seq (.seq (.sts [(.chk [] (.c2 (.bin .eql) (.t 13) (.c (.int .i64 1)))),
    (.set 14 (.o2 (.bin .eql) (.t 13) (.c (.int .i64 1))))]) (.cond 14 .skip (.sts [(.chk [] (.c2 (.bin .eql) (.t 13) (.c (.int .i64 2)))),
    (.set 14 (.o2 (.bin .eql) (.t 13) (.c (.int .i64 2))))]))) (.cond 14 (.sts [(.chk [] (.c1 (.fld 1) (.t 5))),
    (.chk [] (.c1 (.fld 1) (.o1 (.fld 1) (.t 5)))),
    (.chk [] (.c1 .ld1 (.o1 (.fld 1) (.o1 (.fld 1) (.t 5))))),
    (.set 20 (.o1 .ld1 (.o1 (.fld 1) (.o1 (.fld 1) (.t 5))))),
    (.eff [] (some 21) (.app 66 4 40 [(.int .i64 0), (.int .i64 0), (str []), (.int .i64 0)]) [(.t 3), (.t 20)] []),
    (.set 3 (.t 21))]) (.seq (.sts [(.chk [] (.c2 (.bin .eql) (.t 13) (.c (.int .i64 3)))),
    (.set 22 (.o2 (.bin .eql) (.t 13) (.c (.int .i64 3))))]) (.cond 22 (.sts [(.chk [] (.c1 (.fld 5) (.t 5))),
    (.chk [] (.c1 (.ldn 4) (.o1 (.fld 5) (.t 5)))),
    (.chk [] (.c1 (.fld 9) (.t 5))),
    (.chk [] (.c1 (.ldn 4) (.o1 (.fld 9) (.t 5)))),
    (.set 28 (.o1 (.ldn 4) (.o1 (.fld 9) (.t 5)))),
    (.set 26 (.o1 (.ldn 4) (.o1 (.fld 5) (.t 5)))),
    (.eff [] (some 29) (.bsl 66 4 2 [(.int .i64 0), (.int .i64 0), (str []), (.int .i64 0), (.int .i64 0), (.int .i64 0), (str []), (.int .i64 0)] [0, 1]) [(.t 26), (.t 28)] []),
    (.eff [] (some 30) (.app 66 4 40 [(.int .i64 0), (.int .i64 0), (str []), (.int .i64 0)]) [(.t 3), (.t 29)] []),
    (.set 3 (.t 30))]) .skip)))))))) (.sts [(.chk [] (.c2 (.bin .add) (.t 8) (.c (.int .i64 1)))),
    (.set 31 (.o2 (.bin .add) (.t 8) (.c (.int .i64 1)))),
    (.set 8 (.t 31))]))))
def crTerms_S : S :=
  (.seq (.sts [(.set 2 (.c (.slice none 0 0)))]) (.seq (.sts [(.set 3 (.c (.slice none 0 0)))]) (.seq (.seq (.sts [(.set 6 (.t 0)),
    (.chk [] (.c1 .len (.t 6))),
    (.set 7 (.o1 .len (.t 6))),
    (.set 8 (.c (.int .i64 0)))]) (.block 0 (.loop crTerms_L1))) (.seq (.sts [(.set 2 (.t 3))]) .ret))))
def crTerms_E : Res := [(none, (.t 2))]
theorem crTerms_C : Try.f26.body.bind (comp Try.prog crTerms_M Try.f26.ntmps) = some crTerms_S := by kernel_rfl
theorem crTerms_R : resE Try.prog crTerms_M Try.f26.results.toList = some crTerms_E := by kernel_rfl
theorem crTerms_H (G : Ctr) (hG : GOk Try.prog G) (a0 : Value) {h : H} {K : Value → H → Prop} {KP : List PanicEntry → H → Prop} (Hw : wpS G crTerms_S (retQ crTerms_E (callK K KP)) (envOf 0 [a0] env0) h) : HCX Try.prog 26 [a0] h K KP :=
  .inl ⟨by kernel_rfl, hc_of mixed hG Try.func26 crTerms_C crTerms_R (of_decide_eq_true (by kernel_rfl)) Hw⟩
def crAsked_M : Nat → Bool := fun i => Nat.testBit 17389 i
def crAsked_L1 : S :=
  (.seq (.sts [(.chk [] (.c2 (.bin .lss) (.t 8) (.t 7))),
    (.set 9 (.o2 (.bin .lss) (.t 8) (.t 7)))]) (.seq (.cond 9 .skip (.exit 0)) (.seq (.block 1 (.seq (.sts [(.chk [] (.c2 (.idxA 14) (.t 6) (.t 8))),
    (.chk [] (.c1 (.ldn 14) (.o2 (.idxA 14) (.t 6) (.t 8)))),
    (.set 11 (.o1 (.ldn 14) (.o2 (.idxA 14) (.t 6) (.t 8)))),
    (.eff [] (some 5) (.alloc 68 #[(.int .i64 0), (str []), (.slice none 0 0), (.int .i64 0), (.int .i64 0), (.int .i64 0), (.int .i64 0), (str []), (.int .i64 0), (.int .i64 0), (.int .i64 0), (str []), (.int .i64 0), (.int .i64 0)]) [] []),
    (.eff [] none (.store 14) [(.t 5), (.t 11)] [])]) (.seq (.sts [(.chk [] (.c1 (.fld 0) (.t 5))),
    (.chk [] (.c1 .ld1 (.o1 (.fld 0) (.t 5)))),
    (.chk [] (.c2 (.bin .neq) (.o1 .ld1 (.o1 (.fld 0) (.t 5))) (.c (.int .i64 1)))),
    (.set 14 (.o2 (.bin .neq) (.o1 .ld1 (.o1 (.fld 0) (.t 5))) (.c (.int .i64 1))))]) (.cond 14 (.sts [(.chk [] (.c1 (.ldn 14) (.t 5))),
    (.set 16 (.o1 (.ldn 14) (.t 5))),
    (.eff [] (some 17) (.bsl 68 14 1 [(.int .i64 0), (str []), (.slice none 0 0), (.int .i64 0), (.int .i64 0), (.int .i64 0), (.int .i64 0), (str []), (.int .i64 0), (.int .i64 0), (.int .i64 0), (str []), (.int .i64 0), (.int .i64 0)] [0]) [(.t 16)] []),
    (.eff [] (some 18) (.app 68 14 152 [(.int .i64 0), (str []), (.slice none 0 0), (.int .i64 0), (.int .i64 0), (.int .i64 0), (.int .i64 0), (str []), (.int .i64 0), (.int .i64 0), (.int .i64 0), (str []), (.int .i64 0), (.int .i64 0)]) [(.t 3), (.t 17)] []),
    (.set 3 (.t 18))]) .skip)))) (.sts [(.chk [] (.c2 (.bin .add) (.t 8) (.c (.int .i64 1)))),
    (.set 19 (.o2 (.bin .add) (.t 8) (.c (.int .i64 1)))),
    (.set 8 (.t 19))]))))
def crAsked_S : S :=
  (.seq (.sts [(.set 2 (.c (.slice none 0 0)))]) (.seq (.sts [(.set 3 (.c (.slice none 0 0)))]) (.seq (.seq (.sts [(.set 6 (.t 0)),
    (.chk [] (.c1 .len (.t 6))),
    (.set 7 (.o1 .len (.t 6))),
    (.set 8 (.c (.int .i64 0)))]) (.block 0 (.loop crAsked_L1))) (.seq (.sts [(.eff [] (some 21) (.call 26) [(.t 3)] []),
    (.set 2 (.t 21))]) .ret))))
def crAsked_E : Res := [(none, (.t 2))]
theorem crAsked_C : Try.f23.body.bind (comp Try.prog crAsked_M Try.f23.ntmps) = some crAsked_S := by kernel_rfl
theorem crAsked_R : resE Try.prog crAsked_M Try.f23.results.toList = some crAsked_E := by kernel_rfl
theorem crAsked_H (G : Ctr) (hG : GOk Try.prog G) (a0 : Value) {h : H} {K : Value → H → Prop} {KP : List PanicEntry → H → Prop} (Hw : wpS G crAsked_S (retQ crAsked_E (callK K KP)) (envOf 0 [a0] env0) h) : HCX Try.prog 23 [a0] h K KP :=
  .inl ⟨by kernel_rfl, hc_of mixed hG Try.func23 crAsked_C crAsked_R (of_decide_eq_true (by kernel_rfl)) Hw⟩
def crUnb_M : Nat → Bool := fun i => Nat.testBit 4398078030771 i
def crUnb_L1 : S :=
  (.seq (.sts [(.chk [] (.c2 (.bin .lss) (.t 14) (.t 13))),
    (.set 15 (.o2 (.bin .lss) (.t 14) (.t 13)))]) (.seq (.cond 15 .skip (.exit 0)) (.seq (.block 1 (.seq (.sts [(.chk [] (.c2 (.idxA 1) (.t 12) (.t 14))),
    (.chk [] (.c1 .ld1 (.o2 (.idxA 1) (.t 12) (.t 14)))),
    (.set 7 (.o1 .ld1 (.o2 (.idxA 1) (.t 12) (.t 14))))]) (.sts [(.eff [] none (.mput .string) [(.t 5), (.t 7), (.c (.int .i64 1))] [])]))) (.sts [(.chk [] (.c2 (.bin .add) (.t 14) (.c (.int .i64 1)))),
    (.set 20 (.o2 (.bin .add) (.t 14) (.c (.int .i64 1)))),
    (.set 14 (.t 20))]))))
def crUnb_L2 : S :=
  (.seq (.sts [(.chk [] (.c2 (.bin .lss) (.t 23) (.t 22))),
    (.set 24 (.o2 (.bin .lss) (.t 23) (.t 22)))]) (.seq (.cond 24 .skip (.exit 2)) (.seq (.block 3 (.seq (.sts [(.chk [] (.c2 (.idxA 4) (.t 21) (.t 23))),
    (.chk [] (.c1 (.ldn 4) (.o2 (.idxA 4) (.t 21) (.t 23)))),
    (.set 27 (.o1 (.ldn 4) (.o2 (.idxA 4) (.t 21) (.t 23)))),
    (.eff [] (some 9) (.alloc 66 #[(.int .i64 0), (.int .i64 0), (str []), (.int .i64 0)]) [] []),
    (.set 8 (.t 23)),
    (.eff [] none (.store 4) [(.t 9), (.t 27)] [])]) (.seq (.sts [(.chk [] (.c1 (.fld 0) (.t 9))),
    (.chk [] (.c1 .ld1 (.o1 (.fld 0) (.t 9)))),
    (.chk [] (.c2 (.bin .eql) (.o1 .ld1 (.o1 (.fld 0) (.t 9))) (.c (.int .i64 4)))),
    (.chk [((.o2 (.bin .eql) (.o1 .ld1 (.o1 (.fld 0) (.t 9))) (.c (.int .i64 4))), true)] (.c1 (.fld 2) (.t 9))),
    (.chk [((.o2 (.bin .eql) (.o1 .ld1 (.o1 (.fld 0) (.t 9))) (.c (.int .i64 4))), true)] (.c1 .ld1 (.o1 (.fld 2) (.t 9)))),
    (.chk [((.o2 (.bin .eql) (.o1 .ld1 (.o1 (.fld 0) (.t 9))) (.c (.int .i64 4))), true)] (.c2 (.bin .eql) (.o1 .ld1 (.o1 (.fld 2) (.t 9))) (.c (str [95])))),
    (.chk [((.o2 (.bin .eql) (.o1 .ld1 (.o1 (.fld 2) (.t 9))) (.c (str [95]))), false), ((.o2 (.bin .eql) (.o1 .ld1 (.o1 (.fld 0) (.t 9))) (.c (.int .i64 4))), true)] (.c1 (.fld 2) (.t 9))),
    (.chk [((.o2 (.bin .eql) (.o1 .ld1 (.o1 (.fld 2) (.t 9))) (.c (str [95]))), false), ((.o2 (.bin .eql) (.o1 .ld1 (.o1 (.fld 0) (.t 9))) (.c (.int .i64 4))), true)] (.c1 .ld1 (.o1 (.fld 2) (.t 9)))),
    (.set 38 (.o1 .ld1 (.o1 (.fld 2) (.t 9)))),
    (.set 35 (.o2 (.bin .eql) (.o1 .ld1 (.o1 (.fld 2) (.t 9))) (.c (str [95])))),
    (.set 31 (.o2 (.bin .eql) (.o1 .ld1 (.o1 (.fld 0) (.t 9))) (.c (.int .i64 4)))),
    (.eff [((.t 35), false), ((.t 31), true)] (some 39) (.look .string (.int .i64 0) false) [(.t 5), (.t 38)] []),
    (.chk [((.t 35), false), ((.t 31), true)] (.c2 (.bin .eql) (.t 39) (.c (.int .i64 0)))),
    (.chk [((.t 31), true)] (.c3 .pick (.t 35) (.c (.bool true)) (.o2 (.bin .eql) (.t 39) (.c (.int .i64 0))))),
    (.chk [] (.c3 .pick (.t 31) (.o3 .pick (.t 35) (.c (.bool true)) (.o2 (.bin .eql) (.t 39) (.c (.int .i64 0)))) (.c (.bool false)))),
    (.set 42 (.o3 .pick (.t 31) (.o3 .pick (.t 35) (.c (.bool true)) (.o2 (.bin .eql) (.t 39) (.c (.int .i64 0)))) (.c (.bool false))))]) (.cond 42 (.seq (.sts [(.set 4 (.t 8))]) .ret) .skip)))) (.sts [(.chk [] (.c2 (.bin .add) (.t 23) (.c (.int .i64 1)))),
    (.set 44 (.o2 (.bin .add) (.t 23) (.c (.int .i64 1)))),
    (.set 23 (.t 44))]))))
def crUnb_S : S :=
  (.seq (.sts [(.set 4 (.c (.int .i64 0)))]) (.seq (.sts [(.eff [] (some 10) .mkm [] []),
    (.set 5 (.t 10))]) (.seq (.seq (.sts [(.eff [] (some 12) (.call 12) [(.t 1)] []),
    (.chk [] (.c1 .len (.t 12))),
    (.set 13 (.o1 .len (.t 12))),
    (.set 14 (.c (.int .i64 0)))]) (.block 0 (.loop crUnb_L1))) (.seq (.seq (.sts [(.set 21 (.t 0)),
    (.chk [] (.c1 .len (.t 21))),
    (.set 22 (.o1 .len (.t 21))),
    (.set 23 (.c (.int .i64 0)))]) (.block 2 (.loop crUnb_L2))) (.seq (.sts [(.set 4 (.c (.int .i64 (-1))))]) .ret)))))
def crUnb_E : Res := [(none, (.t 4))]
theorem crUnb_C : Try.f24.body.bind (comp Try.prog crUnb_M Try.f24.ntmps) = some crUnb_S := by kernel_rfl
theorem crUnb_R : resE Try.prog crUnb_M Try.f24.results.toList = some crUnb_E := by kernel_rfl
theorem crUnb_H (G : Ctr) (hG : GOk Try.prog G) (a0 : Value) (a1 : Value) {h : H} {K : Value → H → Prop} {KP : List PanicEntry → H → Prop} (Hw : wpS G crUnb_S (retQ crUnb_E (callK K KP)) (envOf 0 [a0, a1] env0) h) : HCX Try.prog 24 [a0, a1] h K KP :=
  .inl ⟨by kernel_rfl, hc_of mixed hG Try.func24 crUnb_C crUnb_R (of_decide_eq_true (by kernel_rfl)) Hw⟩
def crUnbound_M : Nat → Bool := fun i => Nat.testBit 524319 i
def crUnbound_S : S :=
  (.seq (.sts [(.eff [] (some 1) (.box 33) [(.t 0)] []),
    (.set 2 (.c (.int .i64 0)))]) (.seq (.sts [(.chk [] (.c1 (.fld 0) (.t 1))),
    (.chk [] (.c1 (.fld 1) (.o1 (.fld 0) (.t 1)))),
    (.chk [] (.c1 .ld1 (.o1 (.fld 1) (.o1 (.fld 0) (.t 1))))),
    (.chk [] (.c1 (.fld 3) (.t 1))),
    (.chk [] (.c1 .ld1 (.o1 (.fld 3) (.t 1)))),
    (.set 11 (.o1 .ld1 (.o1 (.fld 3) (.t 1)))),
    (.set 8 (.o1 .ld1 (.o1 (.fld 1) (.o1 (.fld 0) (.t 1))))),
    (.eff [] (some 5) (.bsl 66 4 0 [] []) [] [([], ((.o1 (.fld 3) (.t 1)), none)), ([], ((.o1 (.fld 1) (.o1 (.fld 0) (.t 1))), none))]),
    (.eff [] (some 9) (.app 66 4 40 [(.int .i64 0), (.int .i64 0), (str []), (.int .i64 0)]) [(.t 5), (.t 8)] [([], ((.o1 (.fld 3) (.t 1)), none))]),
    (.eff [] (some 12) (.call 23) [(.t 11)] []),
    (.eff [] (some 13) (.app 66 4 40 [(.int .i64 0), (.int .i64 0), (str []), (.int .i64 0)]) [(.t 9), (.t 12)] []),
    (.set 3 (.t 13))]) (.seq (.seq (.sts [(.chk [] (.c1 (.fld 3) (.t 1))),
    (.chk [] (.c1 .ld1 (.o1 (.fld 3) (.t 1)))),
    (.set 16 (.o1 .ld1 (.o1 (.fld 3) (.t 1)))),
    (.eff [] (some 17) (.call 24) [(.t 3), (.t 16)] []),
    (.set 4 (.t 17))]) (.seq (.sts [(.chk [] (.c2 (.bin .geq) (.t 4) (.c (.int .i64 0)))),
    (.set 19 (.o2 (.bin .geq) (.t 4) (.c (.int .i64 0))))]) (.cond 19 (.seq (.sts [(.chk [] (.c2 (.idxA 4) (.t 3) (.t 4))),
    (.chk [] (.c1 (.fld 3) (.o2 (.idxA 4) (.t 3) (.t 4)))),
    (.chk [] (.c1 .ld1 (.o1 (.fld 3) (.o2 (.idxA 4) (.t 3) (.t 4))))),
    (.set 2 (.o1 .ld1 (.o1 (.fld 3) (.o2 (.idxA 4) (.t 3) (.t 4)))))]) .ret) .skip))) (.seq (.sts [(.set 2 (.c (.int .i64 (-1))))]) .ret))))
def crUnbound_E : Res := [(none, (.t 2))]
theorem crUnbound_C : Try.f14.body.bind (comp Try.prog crUnbound_M Try.f14.ntmps) = some crUnbound_S := by kernel_rfl
theorem crUnbound_R : resE Try.prog crUnbound_M Try.f14.results.toList = some crUnbound_E := by kernel_rfl
theorem crUnbound_H (G : Ctr) (hG : GOk Try.prog G) (a0 : Value) {h : H} {K : Value → H → Prop} {KP : List PanicEntry → H → Prop} (Hw : wpS G crUnbound_S (retQ crUnbound_E (callK K KP)) (envOf 0 [a0] env0) h) : HCX Try.prog 14 [a0] h K KP :=
  .inl ⟨by kernel_rfl, hc_of mixed hG Try.func14 crUnbound_C crUnbound_R (of_decide_eq_true (by kernel_rfl)) Hw⟩
def rfAmong_M : Nat → Bool := fun i => Nat.testBit 131635 i
def rfAmong_L1 : S :=
  (.seq (.seq (.sts [(.chk [] (.c1 .len (.t 0))),
    (.chk [] (.c2 (.bin .lss) (.t 5) (.o1 .len (.t 0)))),
    (.set 9 (.o2 (.bin .lss) (.t 5) (.o1 .len (.t 0))))]) (.cond 9 .skip (.exit 0))) (.seq (.block 1 (.seq (.sts [(.chk [] (.c2 (.idxA 1) (.t 0) (.t 5))),
    (.chk [] (.c1 .ld1 (.o2 (.idxA 1) (.t 0) (.t 5)))),
    (.chk [] (.c2 (.bin .eql) (.o1 .ld1 (.o2 (.idxA 1) (.t 0) (.t 5))) (.t 1))),
    (.set 17 (.o2 (.bin .eql) (.o1 .ld1 (.o2 (.idxA 1) (.t 0) (.t 5))) (.t 1)))]) (.cond 17 (.seq (.sts [(.set 4 (.t 5))]) .ret) .skip))) (.sts [(.chk [] (.c2 (.bin .add) (.t 5) (.c (.int .i64 1)))),
    (.set 11 (.o2 (.bin .add) (.t 5) (.c (.int .i64 1)))),
    (.set 5 (.t 11))])))
def rfAmong_S : S :=
  (.seq (.sts [(.set 4 (.c (.int .i64 0)))]) (.seq (.seq (.sts [(.set 5 (.c (.int .i64 0)))]) (.block 0 (.loop rfAmong_L1))) (.seq (.sts [(.set 4 (.c (.int .i64 (-1))))]) .ret)))
def rfAmong_E : Res := [(none, (.t 4))]
theorem rfAmong_C : Try.f20.body.bind (comp Try.prog rfAmong_M Try.f20.ntmps) = some rfAmong_S := by kernel_rfl
theorem rfAmong_R : resE Try.prog rfAmong_M Try.f20.results.toList = some rfAmong_E := by kernel_rfl
theorem rfAmong_H (G : Ctr) (hG : GOk Try.prog G) (a0 : Value) (a1 : Value) {h : H} {K : Value → H → Prop} {KP : List PanicEntry → H → Prop} (Hw : wpS G rfAmong_S (retQ rfAmong_E (callK K KP)) (envOf 0 [a0, a1] env0) h) : HCX Try.prog 20 [a0, a1] h K KP :=
  .inl ⟨by kernel_rfl, hc_of mixed hG Try.func20 rfAmong_C rfAmong_R (of_decide_eq_true (by kernel_rfl)) Hw⟩
def rfVars_M : Nat → Bool := fun i => Nat.testBit 9007199389222013 i
def rfVars_L2 : S :=
  (.seq (.seq (.sts [(.chk [] (.c2 (.idxA 14) (.t 0) (.t 4))),
    (.chk [] (.c1 (.fld 1) (.o2 (.idxA 14) (.t 0) (.t 4)))),
    (.chk [] (.c1 (.fld 1) (.o1 (.fld 1) (.o2 (.idxA 14) (.t 0) (.t 4))))),
    (.chk [] (.c1 .ld1 (.o1 (.fld 1) (.o1 (.fld 1) (.o2 (.idxA 14) (.t 0) (.t 4)))))),
    (.chk [] (.c1 .len (.o1 .ld1 (.o1 (.fld 1) (.o1 (.fld 1) (.o2 (.idxA 14) (.t 0) (.t 4))))))),
    (.chk [] (.c2 (.bin .lss) (.t 5) (.o1 .len (.o1 .ld1 (.o1 (.fld 1) (.o1 (.fld 1) (.o2 (.idxA 14) (.t 0) (.t 4)))))))),
    (.set 27 (.o2 (.bin .lss) (.t 5) (.o1 .len (.o1 .ld1 (.o1 (.fld 1) (.o1 (.fld 1) (.o2 (.idxA 14) (.t 0) (.t 4))))))))]) (.cond 27 .skip (.exit 2))) (.seq (.block 3 (.seq (.sts [(.chk [] (.c2 (.idxA 14) (.t 0) (.t 4))),
    (.chk [] (.c1 (.fld 1) (.o2 (.idxA 14) (.t 0) (.t 4)))),
    (.chk [] (.c1 (.fld 1) (.o1 (.fld 1) (.o2 (.idxA 14) (.t 0) (.t 4))))),
    (.chk [] (.c1 .ld1 (.o1 (.fld 1) (.o1 (.fld 1) (.o2 (.idxA 14) (.t 0) (.t 4)))))),
    (.chk [] (.c2 (.idxA 4) (.o1 .ld1 (.o1 (.fld 1) (.o1 (.fld 1) (.o2 (.idxA 14) (.t 0) (.t 4))))) (.t 5))),
    (.chk [] (.c1 (.ldn 4) (.o2 (.idxA 4) (.o1 .ld1 (.o1 (.fld 1) (.o1 (.fld 1) (.o2 (.idxA 14) (.t 0) (.t 4))))) (.t 5)))),
    (.set 38 (.o1 (.ldn 4) (.o2 (.idxA 4) (.o1 .ld1 (.o1 (.fld 1) (.o1 (.fld 1) (.o2 (.idxA 14) (.t 0) (.t 4))))) (.t 5)))),
    (.eff [] (some 6) (.alloc 66 #[(.int .i64 0), (.int .i64 0), (str []), (.int .i64 0)]) [] []),
    (.eff [] none (.store 4) [(.t 6), (.t 38)] [])]) (.seq (.sts [(.chk [] (.c1 (.fld 0) (.t 6))),
    (.chk [] (.c1 .ld1 (.o1 (.fld 0) (.t 6)))),
    (.chk [] (.c2 (.bin .eql) (.o1 .ld1 (.o1 (.fld 0) (.t 6))) (.c (.int .i64 4)))),
    (.chk [((.o2 (.bin .eql) (.o1 .ld1 (.o1 (.fld 0) (.t 6))) (.c (.int .i64 4))), true)] (.c1 (.fld 2) (.t 6))),
    (.chk [((.o2 (.bin .eql) (.o1 .ld1 (.o1 (.fld 0) (.t 6))) (.c (.int .i64 4))), true)] (.c1 .ld1 (.o1 (.fld 2) (.t 6)))),
    (.chk [((.o2 (.bin .eql) (.o1 .ld1 (.o1 (.fld 0) (.t 6))) (.c (.int .i64 4))), true)] (.c2 (.bin .eql) (.o1 .ld1 (.o1 (.fld 2) (.t 6))) (.c (str [95])))),
    (.chk [((.o2 (.bin .eql) (.o1 .ld1 (.o1 (.fld 2) (.t 6))) (.c (str [95]))), false), ((.o2 (.bin .eql) (.o1 .ld1 (.o1 (.fld 0) (.t 6))) (.c (.int .i64 4))), true)] (.c1 (.fld 2) (.t 6))),
    (.chk [((.o2 (.bin .eql) (.o1 .ld1 (.o1 (.fld 2) (.t 6))) (.c (str [95]))), false), ((.o2 (.bin .eql) (.o1 .ld1 (.o1 (.fld 0) (.t 6))) (.c (.int .i64 4))), true)] (.c1 .ld1 (.o1 (.fld 2) (.t 6)))),
    (.set 49 (.o1 .ld1 (.o1 (.fld 2) (.t 6)))),
    (.set 46 (.o2 (.bin .eql) (.o1 .ld1 (.o1 (.fld 2) (.t 6))) (.c (str [95])))),
    (.set 42 (.o2 (.bin .eql) (.o1 .ld1 (.o1 (.fld 0) (.t 6))) (.c (.int .i64 4)))),
    (.eff [((.t 46), false), ((.t 42), true)] (some 50) (.call 20) [(.t 3), (.t 49)] []),
    (.chk [((.t 46), false), ((.t 42), true)] (.c2 (.bin .lss) (.t 50) (.c (.int .i64 0)))),
    (.chk [((.t 42), true)] (.c3 .pick (.t 46) (.c (.bool true)) (.o2 (.bin .lss) (.t 50) (.c (.int .i64 0))))),
    (.chk [] (.c3 .pick (.t 42) (.o3 .pick (.t 46) (.c (.bool true)) (.o2 (.bin .lss) (.t 50) (.c (.int .i64 0)))) (.c (.bool false)))),
    (.set 53 (.o3 .pick (.t 42) (.o3 .pick (.t 46) (.c (.bool true)) (.o2 (.bin .lss) (.t 50) (.c (.int .i64 0)))) (.c (.bool false))))]) (.cond 53 (.sts [(.chk [] (.c1 (.fld 2) (.t 6))),
    (.chk [] (.c1 .ld1 (.o1 (.fld 2) (.t 6)))),
    (.set 56 (.o1 .ld1 (.o1 (.fld 2) (.t 6)))),
    (.eff [] (some 57) (.bsl 9 1 1 [(str [])] [0]) [(.t 56)] []),
    (.eff [] (some 58) (.app 9 1 16 [(str [])]) [(.t 3), (.t 57)] []),
    (.set 3 (.t 58))]) .skip)))) (.sts [(.chk [] (.c2 (.bin .add) (.t 5) (.c (.int .i64 1)))),
    (.set 29 (.o2 (.bin .add) (.t 5) (.c (.int .i64 1)))),
    (.set 5 (.t 29))])))
def rfVars_L1 : S :=
  (.seq (.seq (.sts [(.chk [] (.c1 .len (.t 0))),
    (.chk [] (.c2 (.bin .lss) (.t 4) (.o1 .len (.t 0)))),
    (.set 10 (.o2 (.bin .lss) (.t 4) (.o1 .len (.t 0))))]) (.cond 10 .skip (.exit 0))) (.seq (.block 1 (.seq (.seq (.sts [(.chk [] (.c2 (.idxA 14) (.t 0) (.t 4))),
    (.chk [] (.c1 (.fld 0) (.o2 (.idxA 14) (.t 0) (.t 4)))),
    (.chk [] (.c1 .ld1 (.o1 (.fld 0) (.o2 (.idxA 14) (.t 0) (.t 4))))),
    (.chk [] (.c2 (.bin .neq) (.o1 .ld1 (.o1 (.fld 0) (.o2 (.idxA 14) (.t 0) (.t 4)))) (.c (.int .i64 1)))),
    (.set 18 (.o2 (.bin .neq) (.o1 .ld1 (.o1 (.fld 0) (.o2 (.idxA 14) (.t 0) (.t 4)))) (.c (.int .i64 1))))]) (.cond 18 (.exit 1) .skip)) (.seq (.sts [(.set 5 (.c (.int .i64 0)))]) (.block 2 (.loop rfVars_L2))))) (.sts [(.chk [] (.c2 (.bin .add) (.t 4) (.c (.int .i64 1)))),
    (.set 12 (.o2 (.bin .add) (.t 4) (.c (.int .i64 1)))),
    (.set 4 (.t 12))])))
def rfVars_S : S :=
  (.seq (.sts [(.set 2 (.c (.slice none 0 0)))]) (.seq (.sts [(.set 3 (.c (.slice none 0 0)))]) (.seq (.seq (.sts [(.set 4 (.c (.int .i64 0)))]) (.block 0 (.loop rfVars_L1))) (.seq (.sts [(.set 2 (.t 3))]) .ret))))
def rfVars_E : Res := [(none, (.t 2))]
theorem rfVars_C : Try.f10.body.bind (comp Try.prog rfVars_M Try.f10.ntmps) = some rfVars_S := by kernel_rfl
theorem rfVars_R : resE Try.prog rfVars_M Try.f10.results.toList = some rfVars_E := by kernel_rfl
theorem rfVars_H (G : Ctr) (hG : GOk Try.prog G) (a0 : Value) {h : H} {K : Value → H → Prop} {KP : List PanicEntry → H → Prop} (Hw : wpS G rfVars_S (retQ rfVars_E (callK K KP)) (envOf 0 [a0] env0) h) : HCX Try.prog 10 [a0] h K KP :=
  .inl ⟨by kernel_rfl, hc_of mixed hG Try.func10 rfVars_C rfVars_R (of_decide_eq_true (by kernel_rfl)) Hw⟩
def rfLoose_M : Nat → Bool := fun i => Nat.testBit 23 i
def rfLoose_S : S :=
  (.seq (.sts [(.eff [] (some 2) (.box 66) [(.t 0)] []),
    (.set 4 (.c (.bool false)))]) (.seq (.sts [(.chk [] (.c1 (.fld 0) (.t 2))),
    (.chk [] (.c1 .ld1 (.o1 (.fld 0) (.t 2)))),
    (.chk [] (.c2 (.bin .eql) (.o1 .ld1 (.o1 (.fld 0) (.t 2))) (.c (.int .i64 4)))),
    (.chk [((.o2 (.bin .eql) (.o1 .ld1 (.o1 (.fld 0) (.t 2))) (.c (.int .i64 4))), true)] (.c1 (.fld 2) (.t 2))),
    (.chk [((.o2 (.bin .eql) (.o1 .ld1 (.o1 (.fld 0) (.t 2))) (.c (.int .i64 4))), true)] (.c1 .ld1 (.o1 (.fld 2) (.t 2)))),
    (.chk [((.o2 (.bin .eql) (.o1 .ld1 (.o1 (.fld 0) (.t 2))) (.c (.int .i64 4))), true)] (.c2 (.bin .eql) (.o1 .ld1 (.o1 (.fld 2) (.t 2))) (.c (str [95])))),
    (.chk [((.o2 (.bin .eql) (.o1 .ld1 (.o1 (.fld 2) (.t 2))) (.c (str [95]))), false), ((.o2 (.bin .eql) (.o1 .ld1 (.o1 (.fld 0) (.t 2))) (.c (.int .i64 4))), true)] (.c1 (.fld 2) (.t 2))),
    (.chk [((.o2 (.bin .eql) (.o1 .ld1 (.o1 (.fld 2) (.t 2))) (.c (str [95]))), false), ((.o2 (.bin .eql) (.o1 .ld1 (.o1 (.fld 0) (.t 2))) (.c (.int .i64 4))), true)] (.c1 .ld1 (.o1 (.fld 2) (.t 2)))),
    (.set 15 (.o1 .ld1 (.o1 (.fld 2) (.t 2)))),
    (.set 12 (.o2 (.bin .eql) (.o1 .ld1 (.o1 (.fld 2) (.t 2))) (.c (str [95])))),
    (.set 8 (.o2 (.bin .eql) (.o1 .ld1 (.o1 (.fld 0) (.t 2))) (.c (.int .i64 4)))),
    (.eff [((.t 12), false), ((.t 8), true)] (some 16) (.call 20) [(.t 1), (.t 15)] []),
    (.chk [((.t 12), false), ((.t 8), true)] (.c2 (.bin .lss) (.t 16) (.c (.int .i64 0)))),
    (.chk [((.t 8), true)] (.c3 .pick (.t 12) (.c (.bool true)) (.o2 (.bin .lss) (.t 16) (.c (.int .i64 0))))),
    (.chk [] (.c3 .pick (.t 8) (.o3 .pick (.t 12) (.c (.bool true)) (.o2 (.bin .lss) (.t 16) (.c (.int .i64 0)))) (.c (.bool false)))),
    (.set 4 (.o3 .pick (.t 8) (.o3 .pick (.t 12) (.c (.bool true)) (.o2 (.bin .lss) (.t 16) (.c (.int .i64 0)))) (.c (.bool false))))]) .ret))
def rfLoose_E : Res := [(none, (.t 4))]
theorem rfLoose_C : Try.f25.body.bind (comp Try.prog rfLoose_M Try.f25.ntmps) = some rfLoose_S := by kernel_rfl
theorem rfLoose_R : resE Try.prog rfLoose_M Try.f25.results.toList = some rfLoose_E := by kernel_rfl
theorem rfLoose_H (G : Ctr) (hG : GOk Try.prog G) (a0 : Value) (a1 : Value) {h : H} {K : Value → H → Prop} {KP : List PanicEntry → H → Prop} (Hw : wpS G rfLoose_S (retQ rfLoose_E (callK K KP)) (envOf 0 [a0, a1] env0) h) : HCX Try.prog 25 [a0, a1] h K KP :=
  .inl ⟨by kernel_rfl, hc_of mixed hG Try.func25 rfLoose_C rfLoose_R (of_decide_eq_true (by kernel_rfl)) Hw⟩
def rfLooseT_M : Nat → Bool := fun i => Nat.testBit 37037604435073958899 i
def rfLooseT_L1 : S :=
  (.seq (.seq (.sts [(.chk [] (.c1 .len (.t 1))),
    (.chk [] (.c2 (.bin .lss) (.t 8) (.o1 .len (.t 1)))),
    (.set 18 (.o2 (.bin .lss) (.t 8) (.o1 .len (.t 1))))]) (.cond 18 .skip (.exit 0))) (.seq (.block 1 (.seq (.seq (.sts [(.chk [] (.c2 (.idxA 14) (.t 1) (.t 8))),
    (.chk [] (.c1 (.fld 0) (.o2 (.idxA 14) (.t 1) (.t 8)))),
    (.chk [] (.c1 .ld1 (.o1 (.fld 0) (.o2 (.idxA 14) (.t 1) (.t 8))))),
    (.chk [] (.c2 (.bin .eql) (.o1 .ld1 (.o1 (.fld 0) (.o2 (.idxA 14) (.t 1) (.t 8)))) (.c (.int .i64 2)))),
    (.set 26 (.o2 (.bin .eql) (.o1 .ld1 (.o1 (.fld 0) (.o2 (.idxA 14) (.t 1) (.t 8)))) (.c (.int .i64 2))))]) (.cond 26 (.sts [(.chk [] (.c2 (.idxA 14) (.t 1) (.t 8))),
    (.chk [] (.c1 (.fld 1) (.o2 (.idxA 14) (.t 1) (.t 8)))),
    (.chk [] (.c1 (.fld 1) (.o1 (.fld 1) (.o2 (.idxA 14) (.t 1) (.t 8))))),
    (.chk [] (.c1 .ld1 (.o1 (.fld 1) (.o1 (.fld 1) (.o2 (.idxA 14) (.t 1) (.t 8)))))),
    (.set 33 (.o1 .ld1 (.o1 (.fld 1) (.o1 (.fld 1) (.o2 (.idxA 14) (.t 1) (.t 8)))))),
    (.eff [] (some 34) (.app 66 4 40 [(.int .i64 0), (.int .i64 0), (str []), (.int .i64 0)]) [(.t 7), (.t 33)] []),
    (.set 7 (.t 34))]) .skip)) (.seq (.sts [(.chk [] (.c2 (.idxA 14) (.t 1) (.t 8))),
    (.chk [] (.c1 (.fld 0) (.o2 (.idxA 14) (.t 1) (.t 8)))),
    (.chk [] (.c1 .ld1 (.o1 (.fld 0) (.o2 (.idxA 14) (.t 1) (.t 8))))),
    (.chk [] (.c2 (.bin .eql) (.o1 .ld1 (.o1 (.fld 0) (.o2 (.idxA 14) (.t 1) (.t 8)))) (.c (.int .i64 3)))),
    (.set 40 (.o2 (.bin .eql) (.o1 .ld1 (.o1 (.fld 0) (.o2 (.idxA 14) (.t 1) (.t 8)))) (.c (.int .i64 3))))]) (.cond 40 (.sts [(.chk [] (.c2 (.idxA 14) (.t 1) (.t 8))),
    (.chk [] (.c1 (.fld 5) (.o2 (.idxA 14) (.t 1) (.t 8)))),
    (.chk [] (.c1 (.ldn 4) (.o1 (.fld 5) (.o2 (.idxA 14) (.t 1) (.t 8))))),
    (.chk [] (.c2 (.idxA 14) (.t 1) (.t 8))),
    (.chk [] (.c1 (.fld 9) (.o2 (.idxA 14) (.t 1) (.t 8)))),
    (.chk [] (.c1 (.ldn 4) (.o1 (.fld 9) (.o2 (.idxA 14) (.t 1) (.t 8))))),
    (.set 51 (.o1 (.ldn 4) (.o1 (.fld 9) (.o2 (.idxA 14) (.t 1) (.t 8))))),
    (.set 46 (.o1 (.ldn 4) (.o1 (.fld 5) (.o2 (.idxA 14) (.t 1) (.t 8))))),
    (.eff [] (some 52) (.bsl 66 4 2 [(.int .i64 0), (.int .i64 0), (str []), (.int .i64 0), (.int .i64 0), (.int .i64 0), (str []), (.int .i64 0)] [0, 1]) [(.t 46), (.t 51)] []),
    (.eff [] (some 53) (.app 66 4 40 [(.int .i64 0), (.int .i64 0), (str []), (.int .i64 0)]) [(.t 7), (.t 52)] []),
    (.set 7 (.t 53))]) .skip)))) (.sts [(.chk [] (.c2 (.bin .add) (.t 8) (.c (.int .i64 1)))),
    (.set 20 (.o2 (.bin .add) (.t 8) (.c (.int .i64 1)))),
    (.set 8 (.t 20))])))
def rfLooseT_L2 : S :=
  (.seq (.seq (.sts [(.chk [] (.c1 .len (.t 7))),
    (.chk [] (.c2 (.bin .lss) (.t 9) (.o1 .len (.t 7)))),
    (.set 57 (.o2 (.bin .lss) (.t 9) (.o1 .len (.t 7))))]) (.cond 57 .skip (.exit 2))) (.seq (.block 3 (.seq (.sts [(.chk [] (.c2 (.idxA 4) (.t 7) (.t 9))),
    (.chk [] (.c1 (.ldn 4) (.o2 (.idxA 4) (.t 7) (.t 9)))),
    (.set 63 (.o1 (.ldn 4) (.o2 (.idxA 4) (.t 7) (.t 9)))),
    (.eff [] (some 65) (.call 25) [(.t 63), (.t 6)] [])]) (.cond 65 (.seq (.sts [(.chk [] (.c2 (.idxA 4) (.t 7) (.t 9))),
    (.chk [] (.c1 (.ldn 4) (.o2 (.idxA 4) (.t 7) (.t 9)))),
    (.set 69 (.o1 (.ldn 4) (.o2 (.idxA 4) (.t 7) (.t 9)))),
    (.eff [] none (.store 4) [(.t 4), (.t 69)] []),
    (.set 5 (.c (.bool true)))]) .ret) .skip))) (.sts [(.chk [] (.c2 (.bin .add) (.t 9) (.c (.int .i64 1)))),
    (.set 59 (.o2 (.bin .add) (.t 9) (.c (.int .i64 1)))),
    (.set 9 (.t 59))])))
def rfLooseT_S : S :=
  (.seq (.sts [(.eff [] (some 4) (.alloc 66 #[(.int .i64 0), (.int .i64 0), (str []), (.int .i64 0)]) [] []),
    (.set 5 (.c (.bool false)))]) (.seq (.sts [(.eff [] (some 11) (.call 10) [(.t 1)] []),
    (.set 6 (.t 11))]) (.seq (.sts [(.eff [] (some 12) (.bsl 66 4 0 [] []) [] []),
    (.eff [] (some 14) (.app 66 4 40 [(.int .i64 0), (.int .i64 0), (str []), (.int .i64 0)]) [(.t 12), (.t 0)] []),
    (.set 7 (.t 14))]) (.seq (.seq (.sts [(.set 8 (.c (.int .i64 0)))]) (.block 0 (.loop rfLooseT_L1))) (.seq (.seq (.sts [(.set 9 (.c (.int .i64 0)))]) (.block 2 (.loop rfLooseT_L2))) (.seq (.sts [(.chk [] (.cb 4 [])),
    (.eff [] none (.store 4) [(.t 4), (.c (.agg #[(.int .i64 0), (.int .i64 0), (str []), (.int .i64 0)]))] []),
    (.set 5 (.c (.bool false)))]) .ret))))))
def rfLooseT_E : Res := [((some (.c1 (.ldn 4) (.t 4))), (.o1 (.ldn 4) (.t 4))), (none, (.t 5))]
theorem rfLooseT_C : Try.f21.body.bind (comp Try.prog rfLooseT_M Try.f21.ntmps) = some rfLooseT_S := by kernel_rfl
theorem rfLooseT_R : resE Try.prog rfLooseT_M Try.f21.results.toList = some rfLooseT_E := by kernel_rfl
theorem rfLooseT_H (G : Ctr) (hG : GOk Try.prog G) (a0 : Value) (a1 : Value) {h : H} {K : Value → H → Prop} {KP : List PanicEntry → H → Prop} (Hw : wpS G rfLooseT_S (retQ rfLooseT_E (callK K KP)) (envOf 0 [a0, a1] env0) h) : HCX Try.prog 21 [a0, a1] h K KP :=
  .inl ⟨by kernel_rfl, hc_of mixed hG Try.func21 rfLooseT_C rfLooseT_R (of_decide_eq_true (by kernel_rfl)) Hw⟩
def rfUnbound_M : Nat → Bool := fun i => Nat.testBit 16415 i
def rfUnbound_S : S :=
  (.seq (.sts [(.eff [] (some 1) (.box 33) [(.t 0)] []),
    (.set 2 (.c (.int .i64 0)))]) (.seq (.sts [(.chk [] (.c1 (.fld 0) (.t 1))),
    (.chk [] (.c1 (.fld 1) (.o1 (.fld 0) (.t 1)))),
    (.chk [] (.c1 .ld1 (.o1 (.fld 1) (.o1 (.fld 0) (.t 1))))),
    (.chk [] (.c1 (.fld 3) (.t 1))),
    (.chk [] (.c1 .ld1 (.o1 (.fld 3) (.t 1)))),
    (.set 10 (.o1 .ld1 (.o1 (.fld 3) (.t 1)))),
    (.set 8 (.o1 .ld1 (.o1 (.fld 1) (.o1 (.fld 0) (.t 1))))),
    (.eff [] (some 11) (.call 21) [(.t 8), (.t 10)] []),
    (.chk [] (.c1 (.ext 0) (.t 11))),
    (.chk [] (.c1 (.ext 1) (.t 11))),
    (.eff [] (some 3) (.alloc 66 #[(.int .i64 0), (.int .i64 0), (str []), (.int .i64 0)]) [] []),
    (.eff [] none (.store 4) [(.t 3), (.o1 (.ext 0) (.t 11))] []),
    (.set 4 (.o1 (.ext 1) (.t 11)))]) (.seq (.seq (.sts [(.set 14 (.t 4))]) (.cond 14 (.seq (.sts [(.chk [] (.c1 (.fld 3) (.t 3))),
    (.chk [] (.c1 .ld1 (.o1 (.fld 3) (.t 3)))),
    (.set 2 (.o1 .ld1 (.o1 (.fld 3) (.t 3))))]) .ret) .skip)) (.seq (.sts [(.set 2 (.c (.int .i64 (-1))))]) .ret))))
def rfUnbound_E : Res := [(none, (.t 2))]
theorem rfUnbound_C : Try.f11.body.bind (comp Try.prog rfUnbound_M Try.f11.ntmps) = some rfUnbound_S := by kernel_rfl
theorem rfUnbound_R : resE Try.prog rfUnbound_M Try.f11.results.toList = some rfUnbound_E := by kernel_rfl
theorem rfUnbound_H (G : Ctr) (hG : GOk Try.prog G) (a0 : Value) {h : H} {K : Value → H → Prop} {KP : List PanicEntry → H → Prop} (Hw : wpS G rfUnbound_S (retQ rfUnbound_E (callK K KP)) (envOf 0 [a0] env0) h) : HCX Try.prog 11 [a0] h K KP :=
  .inl ⟨by kernel_rfl, hc_of mixed hG Try.func11 rfUnbound_C rfUnbound_R (of_decide_eq_true (by kernel_rfl)) Hw⟩
def lwNames_M : Nat → Bool := fun i => Nat.testBit 33571891 i
def lwNames_L1 : S :=
  (.seq (.seq (.sts [(.chk [] (.c1 .len (.t 0))),
    (.chk [] (.c2 (.bin .lss) (.t 5) (.o1 .len (.t 0)))),
    (.set 14 (.o2 (.bin .lss) (.t 5) (.o1 .len (.t 0))))]) (.cond 14 .skip (.exit 0))) (.seq (.block 1 (.seq (.sts [(.chk [] (.c2 (.idxA 1) (.t 0) (.t 5))),
    (.chk [] (.c1 .ld1 (.o2 (.idxA 1) (.t 0) (.t 5)))),
    (.chk [] (.c2 (.idxA 1) (.t 1) (.t 5))),
    (.chk [] (.c1 .ld1 (.o2 (.idxA 1) (.t 1) (.t 5)))),
    (.chk [] (.c2 (.bin .neq) (.o1 .ld1 (.o2 (.idxA 1) (.t 0) (.t 5))) (.o1 .ld1 (.o2 (.idxA 1) (.t 1) (.t 5))))),
    (.set 25 (.o2 (.bin .neq) (.o1 .ld1 (.o2 (.idxA 1) (.t 0) (.t 5))) (.o1 .ld1 (.o2 (.idxA 1) (.t 1) (.t 5)))))]) (.cond 25 (.seq (.sts [(.set 4 (.c (.bool false)))]) .ret) .skip))) (.sts [(.chk [] (.c2 (.bin .add) (.t 5) (.c (.int .i64 1)))),
    (.set 16 (.o2 (.bin .add) (.t 5) (.c (.int .i64 1)))),
    (.set 5 (.t 16))])))
def lwNames_S : S :=
  (.seq (.sts [(.set 4 (.c (.bool false)))]) (.seq (.seq (.sts [(.chk [] (.c1 .len (.t 0))),
    (.chk [] (.c1 .len (.t 1))),
    (.chk [] (.c2 (.bin .neq) (.o1 .len (.t 0)) (.o1 .len (.t 1)))),
    (.set 10 (.o2 (.bin .neq) (.o1 .len (.t 0)) (.o1 .len (.t 1))))]) (.cond 10 (.seq (.sts [(.set 4 (.c (.bool false)))]) .ret) .skip)) (.seq (.seq (.sts [(.set 5 (.c (.int .i64 0)))]) (.block 0 (.loop lwNames_L1))) (.seq (.sts [(.set 4 (.c (.bool true)))]) .ret))))
def lwNames_E : Res := [(none, (.t 4))]
theorem lwNames_C : Try.f13.body.bind (comp Try.prog lwNames_M Try.f13.ntmps) = some lwNames_S := by kernel_rfl
theorem lwNames_R : resE Try.prog lwNames_M Try.f13.results.toList = some lwNames_E := by kernel_rfl
theorem lwNames_H (G : Ctr) (hG : GOk Try.prog G) (a0 : Value) (a1 : Value) {h : H} {K : Value → H → Prop} {KP : List PanicEntry → H → Prop} (Hw : wpS G lwNames_S (retQ lwNames_E (callK K KP)) (envOf 0 [a0, a1] env0) h) : HCX Try.prog 13 [a0, a1] h K KP :=
  .inl ⟨by kernel_rfl, hc_of mixed hG Try.func13 lwNames_C lwNames_R (of_decide_eq_true (by kernel_rfl)) Hw⟩
def CoreClauses_M : Nat → Bool := fun i => Nat.testBit 4398046512253 i
def CoreClauses_L1 : S :=
  (.seq (.seq (.sts [(.chk [] (.c1 .len (.t 0))),
    (.chk [] (.c2 (.bin .lss) (.t 3) (.o1 .len (.t 0)))),
    (.set 10 (.o2 (.bin .lss) (.t 3) (.o1 .len (.t 0))))]) (.cond 10 .skip (.exit 0))) (.seq (.block 1 (.seq (.sts [(.chk [] (.c2 (.idxA 4) (.t 0) (.t 3))),
    (.chk [] (.c1 (.fld 3) (.o2 (.idxA 4) (.t 0) (.t 3)))),
    (.chk [] (.c1 .ld1 (.o1 (.fld 3) (.o2 (.idxA 4) (.t 0) (.t 3))))),
    (.set 17 (.o1 .ld1 (.o1 (.fld 3) (.o2 (.idxA 4) (.t 0) (.t 3))))),
    (.eff [] (some 18) (.call 10) [(.t 17)] []),
    (.set 4 (.t 18))]) (.seq (.sts [(.chk [] (.c2 (.idxA 4) (.t 0) (.t 3))),
    (.chk [] (.c1 (.ldn 4) (.o2 (.idxA 4) (.t 0) (.t 3)))),
    (.set 22 (.o1 (.ldn 4) (.o2 (.idxA 4) (.t 0) (.t 3)))),
    (.eff [] (some 23) (.call 11) [(.t 22)] []),
    (.set 5 (.t 23))]) (.seq (.sts [(.chk [] (.c2 (.idxA 4) (.t 0) (.t 3))),
    (.chk [] (.c1 (.fld 3) (.o2 (.idxA 4) (.t 0) (.t 3)))),
    (.chk [] (.c1 .ld1 (.o1 (.fld 3) (.o2 (.idxA 4) (.t 0) (.t 3))))),
    (.set 28 (.o1 .ld1 (.o1 (.fld 3) (.o2 (.idxA 4) (.t 0) (.t 3))))),
    (.eff [] (some 29) (.call 12) [(.t 28)] []),
    (.set 6 (.t 29))]) (.seq (.sts [(.eff [] (some 32) (.call 13) [(.t 6), (.t 4)] []),
    (.chk [] (.c1 .not (.t 32))),
    (.chk [((.o1 .not (.t 32)), false)] (.c2 (.idxA 4) (.t 0) (.t 3))),
    (.chk [((.o1 .not (.t 32)), false)] (.c1 (.ldn 4) (.o2 (.idxA 4) (.t 0) (.t 3)))),
    (.set 38 (.o1 (.ldn 4) (.o2 (.idxA 4) (.t 0) (.t 3)))),
    (.eff [((.o1 .not (.t 32)), false)] (some 39) (.call 14) [(.t 38)] []),
    (.chk [((.o1 .not (.t 32)), false)] (.c2 (.bin .neq) (.t 39) (.t 5))),
    (.chk [] (.c3 .pick (.o1 .not (.t 32)) (.c (.bool true)) (.o2 (.bin .neq) (.t 39) (.t 5)))),
    (.set 42 (.o3 .pick (.o1 .not (.t 32)) (.c (.bool true)) (.o2 (.bin .neq) (.t 39) (.t 5))))]) (.cond 42 (.seq (.sts [(.set 2 (.c (.bool false)))]) .ret) .skip)))))) (.sts [(.chk [] (.c2 (.bin .add) (.t 3) (.c (.int .i64 1)))),
    (.set 12 (.o2 (.bin .add) (.t 3) (.c (.int .i64 1)))),
    (.set 3 (.t 12))])))
def CoreClauses_S : S :=
  (.seq (.sts [(.set 2 (.c (.bool false)))]) (.seq (.seq (.sts [(.set 3 (.c (.int .i64 0)))]) (.block 0 (.loop CoreClauses_L1))) (.seq (.sts [(.set 2 (.c (.bool true)))]) .ret)))
def CoreClauses_E : Res := [(none, (.t 2))]
theorem CoreClauses_C : Try.f4.body.bind (comp Try.prog CoreClauses_M Try.f4.ntmps) = some CoreClauses_S := by kernel_rfl
theorem CoreClauses_R : resE Try.prog CoreClauses_M Try.f4.results.toList = some CoreClauses_E := by kernel_rfl
theorem CoreClauses_H (G : Ctr) (hG : GOk Try.prog G) (a0 : Value) {h : H} {K : Value → H → Prop} {KP : List PanicEntry → H → Prop} (Hw : wpS G CoreClauses_S (retQ CoreClauses_E (callK K KP)) (envOf 0 [a0] env0) h) : HCX Try.prog 4 [a0] h K KP :=
  .inl ⟨by kernel_rfl, hc_of mixed hG Try.func4 CoreClauses_C CoreClauses_R (of_decide_eq_true (by kernel_rfl)) Hw⟩
end Go.Proofs.Ytjkppoffffjkmaa
