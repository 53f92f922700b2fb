/- The small statements of functions of the program, as the closed computation gives them (written by a program of ours; checked by the kernel below). -/
import Derived.Test.YtlenjlidahnklaaDoorEvB
import Derived.Test.YtlenjlidahnklaaDoorProg
import Derived.KernelRfl
namespace Go.Proofs.YtlenjlidahnklaaDoor
open Go Go.Ev
theorem mixed : Tryd.prog.follows .mixedOrders = true := by kernel_rfl
def lxIsBlank_M : Nat → Bool := fun i => Nat.testBit 5 i
def lxIsBlank_S : S :=
  (.seq (.sts [(.set 2 (.c (.bool false)))]) (.seq (.sts [(.chk [] (.c2 (.bin .eql) (.t 0) (.c (.int .u8 32)))),
    (.chk [((.o2 (.bin .eql) (.t 0) (.c (.int .u8 32))), false)] (.c2 (.bin .eql) (.t 0) (.c (.int .u8 9)))),
    (.chk [] (.c3 .pick (.o2 (.bin .eql) (.t 0) (.c (.int .u8 32))) (.c (.bool true)) (.o2 (.bin .eql) (.t 0) (.c (.int .u8 9))))),
    (.chk [((.o3 .pick (.o2 (.bin .eql) (.t 0) (.c (.int .u8 32))) (.c (.bool true)) (.o2 (.bin .eql) (.t 0) (.c (.int .u8 9)))), false)] (.c2 (.bin .eql) (.t 0) (.c (.int .u8 10)))),
    (.chk [] (.c3 .pick (.o3 .pick (.o2 (.bin .eql) (.t 0) (.c (.int .u8 32))) (.c (.bool true)) (.o2 (.bin .eql) (.t 0) (.c (.int .u8 9)))) (.c (.bool true)) (.o2 (.bin .eql) (.t 0) (.c (.int .u8 10))))),
    (.chk [((.o3 .pick (.o3 .pick (.o2 (.bin .eql) (.t 0) (.c (.int .u8 32))) (.c (.bool true)) (.o2 (.bin .eql) (.t 0) (.c (.int .u8 9)))) (.c (.bool true)) (.o2 (.bin .eql) (.t 0) (.c (.int .u8 10)))), false)] (.c2 (.bin .eql) (.t 0) (.c (.int .u8 13)))),
    (.chk [] (.c3 .pick (.o3 .pick (.o3 .pick (.o2 (.bin .eql) (.t 0) (.c (.int .u8 32))) (.c (.bool true)) (.o2 (.bin .eql) (.t 0) (.c (.int .u8 9)))) (.c (.bool true)) (.o2 (.bin .eql) (.t 0) (.c (.int .u8 10)))) (.c (.bool true)) (.o2 (.bin .eql) (.t 0) (.c (.int .u8 13))))),
    (.set 2 (.o3 .pick (.o3 .pick (.o3 .pick (.o2 (.bin .eql) (.t 0) (.c (.int .u8 32))) (.c (.bool true)) (.o2 (.bin .eql) (.t 0) (.c (.int .u8 9)))) (.c (.bool true)) (.o2 (.bin .eql) (.t 0) (.c (.int .u8 10)))) (.c (.bool true)) (.o2 (.bin .eql) (.t 0) (.c (.int .u8 13)))))]) .ret))
def lxIsBlank_E : Res := [(none, (.t 2))]
theorem lxIsBlank_C : Tryd.f57.body.bind (comp Tryd.prog lxIsBlank_M Tryd.f57.ntmps) = some lxIsBlank_S := by kernel_rfl
theorem lxIsBlank_R : resE Tryd.prog lxIsBlank_M Tryd.f57.results.toList = some lxIsBlank_E := by kernel_rfl
theorem lxIsBlank_H (G : Ctr) (hG : GOk Tryd.prog G) (a0 : Value) {h : H} {K : Value → H → Prop} {KP : List PanicEntry → H → Prop} (Hw : wpS G lxIsBlank_S (retQ lxIsBlank_E (callK K KP)) (envOf 0 [a0] env0) h) : HCX Tryd.prog 57 [a0] h K KP :=
  .inl ⟨by kernel_rfl, hc_of mixed hG Tryd.func57 lxIsBlank_C lxIsBlank_R (of_decide_eq_true (by kernel_rfl)) Hw⟩
def slHasPrefix_M : Nat → Bool := fun i => Nat.testBit 19 i
def slHasPrefix_S : S :=
  (.seq (.sts [(.set 4 (.c (.bool false)))]) (.seq (.sts [(.chk [] (.c1 .lens (.t 0))),
    (.chk [] (.c1 .lens (.t 1))),
    (.chk [] (.c2 (.bin .geq) (.o1 .lens (.t 0)) (.o1 .lens (.t 1)))),
    (.chk [((.o2 (.bin .geq) (.o1 .lens (.t 0)) (.o1 .lens (.t 1))), true)] (.c1 .lens (.t 1))),
    (.chk [((.o2 (.bin .geq) (.o1 .lens (.t 0)) (.o1 .lens (.t 1))), true)] (.c2 .subHi (.t 0) (.o1 .lens (.t 1)))),
    (.chk [((.o2 (.bin .geq) (.o1 .lens (.t 0)) (.o1 .lens (.t 1))), true)] (.c2 (.bin .eql) (.o2 .subHi (.t 0) (.o1 .lens (.t 1))) (.t 1))),
    (.chk [] (.c3 .pick (.o2 (.bin .geq) (.o1 .lens (.t 0)) (.o1 .lens (.t 1))) (.o2 (.bin .eql) (.o2 .subHi (.t 0) (.o1 .lens (.t 1))) (.t 1)) (.c (.bool false)))),
    (.set 4 (.o3 .pick (.o2 (.bin .geq) (.o1 .lens (.t 0)) (.o1 .lens (.t 1))) (.o2 (.bin .eql) (.o2 .subHi (.t 0) (.o1 .lens (.t 1))) (.t 1)) (.c (.bool false))))]) .ret))
def slHasPrefix_E : Res := [(none, (.t 4))]
theorem slHasPrefix_C : Tryd.f63.body.bind (comp Tryd.prog slHasPrefix_M Tryd.f63.ntmps) = some slHasPrefix_S := by kernel_rfl
theorem slHasPrefix_R : resE Tryd.prog slHasPrefix_M Tryd.f63.results.toList = some slHasPrefix_E := by kernel_rfl
theorem slHasPrefix_H (G : Ctr) (hG : GOk Tryd.prog G) (a0 : Value) (a1 : Value) {h : H} {K : Value → H → Prop} {KP : List PanicEntry → H → Prop} (Hw : wpS G slHasPrefix_S (retQ slHasPrefix_E (callK K KP)) (envOf 0 [a0, a1] env0) h) : HCX Tryd.prog 63 [a0, a1] h K KP :=
  .inl ⟨by kernel_rfl, hc_of mixed hG Tryd.func63 slHasPrefix_C slHasPrefix_R (of_decide_eq_true (by kernel_rfl)) Hw⟩
def stHasPrefix_M : Nat → Bool := fun i => Nat.testBit 19 i
def stHasPrefix_S : S :=
  (.seq (.sts [(.set 4 (.c (.bool false)))]) (.seq (.sts [(.eff [] (some 7) (.call 63) [(.t 0), (.t 1)] []),
    (.set 4 (.t 7))]) .ret))
def stHasPrefix_E : Res := [(none, (.t 4))]
theorem stHasPrefix_C : Tryd.f56.body.bind (comp Tryd.prog stHasPrefix_M Tryd.f56.ntmps) = some stHasPrefix_S := by kernel_rfl
theorem stHasPrefix_R : resE Tryd.prog stHasPrefix_M Tryd.f56.results.toList = some stHasPrefix_E := by kernel_rfl
theorem stHasPrefix_H (G : Ctr) (hG : GOk Tryd.prog G) (a0 : Value) (a1 : Value) {h : H} {K : Value → H → Prop} {KP : List PanicEntry → H → Prop} (Hw : wpS G stHasPrefix_S (retQ stHasPrefix_E (callK K KP)) (envOf 0 [a0, a1] env0) h) : HCX Tryd.prog 56 [a0, a1] h K KP :=
  .inl ⟨by kernel_rfl, hc_of mixed hG Tryd.func56 stHasPrefix_C stHasPrefix_R (of_decide_eq_true (by kernel_rfl)) Hw⟩
def lxGap_M : Nat → Bool := fun i => Nat.testBit 22835973972341524725499702261030176676466753597 i
def lxGap_L2 : S :=
  (.seq (.seq (.sts [(.chk [] (.c1 .nilck (.t 0))),
    (.chk [] (.c1 (.fld 1) (.t 0))),
    (.chk [] (.c1 .ld1 (.o1 (.fld 1) (.t 0)))),
    (.chk [] (.c1 .nilck (.t 0))),
    (.chk [] (.c1 (.fld 0) (.t 0))),
    (.chk [] (.c1 .ld1 (.o1 (.fld 0) (.t 0)))),
    (.chk [] (.c1 .lens (.o1 .ld1 (.o1 (.fld 0) (.t 0))))),
    (.chk [] (.c2 (.bin .lss) (.o1 .ld1 (.o1 (.fld 1) (.t 0))) (.o1 .lens (.o1 .ld1 (.o1 (.fld 0) (.t 0)))))),
    (.chk [((.o2 (.bin .lss) (.o1 .ld1 (.o1 (.fld 1) (.t 0))) (.o1 .lens (.o1 .ld1 (.o1 (.fld 0) (.t 0))))), true)] (.c1 .nilck (.t 0))),
    (.chk [((.o2 (.bin .lss) (.o1 .ld1 (.o1 (.fld 1) (.t 0))) (.o1 .lens (.o1 .ld1 (.o1 (.fld 0) (.t 0))))), true)] (.c1 (.fld 0) (.t 0))),
    (.chk [((.o2 (.bin .lss) (.o1 .ld1 (.o1 (.fld 1) (.t 0))) (.o1 .lens (.o1 .ld1 (.o1 (.fld 0) (.t 0))))), true)] (.c1 .ld1 (.o1 (.fld 0) (.t 0)))),
    (.chk [((.o2 (.bin .lss) (.o1 .ld1 (.o1 (.fld 1) (.t 0))) (.o1 .lens (.o1 .ld1 (.o1 (.fld 0) (.t 0))))), true)] (.c1 .nilck (.t 0))),
    (.chk [((.o2 (.bin .lss) (.o1 .ld1 (.o1 (.fld 1) (.t 0))) (.o1 .lens (.o1 .ld1 (.o1 (.fld 0) (.t 0))))), true)] (.c1 (.fld 1) (.t 0))),
    (.chk [((.o2 (.bin .lss) (.o1 .ld1 (.o1 (.fld 1) (.t 0))) (.o1 .lens (.o1 .ld1 (.o1 (.fld 0) (.t 0))))), true)] (.c1 .ld1 (.o1 (.fld 1) (.t 0)))),
    (.chk [((.o2 (.bin .lss) (.o1 .ld1 (.o1 (.fld 1) (.t 0))) (.o1 .lens (.o1 .ld1 (.o1 (.fld 0) (.t 0))))), true)] (.c2 .idxS (.o1 .ld1 (.o1 (.fld 0) (.t 0))) (.o1 .ld1 (.o1 (.fld 1) (.t 0))))),
    (.chk [((.o2 (.bin .lss) (.o1 .ld1 (.o1 (.fld 1) (.t 0))) (.o1 .lens (.o1 .ld1 (.o1 (.fld 0) (.t 0))))), true)] (.c2 (.bin .neq) (.o2 .idxS (.o1 .ld1 (.o1 (.fld 0) (.t 0))) (.o1 .ld1 (.o1 (.fld 1) (.t 0)))) (.c (.int .u8 10)))),
    (.chk [] (.c3 .pick (.o2 (.bin .lss) (.o1 .ld1 (.o1 (.fld 1) (.t 0))) (.o1 .lens (.o1 .ld1 (.o1 (.fld 0) (.t 0))))) (.o2 (.bin .neq) (.o2 .idxS (.o1 .ld1 (.o1 (.fld 0) (.t 0))) (.o1 .ld1 (.o1 (.fld 1) (.t 0)))) (.c (.int .u8 10))) (.c (.bool false)))),
    (.set 66 (.o3 .pick (.o2 (.bin .lss) (.o1 .ld1 (.o1 (.fld 1) (.t 0))) (.o1 .lens (.o1 .ld1 (.o1 (.fld 0) (.t 0))))) (.o2 (.bin .neq) (.o2 .idxS (.o1 .ld1 (.o1 (.fld 0) (.t 0))) (.o1 .ld1 (.o1 (.fld 1) (.t 0)))) (.c (.int .u8 10))) (.c (.bool false))))]) (.cond 66 .skip (.exit 3))) (.block 4 (.sts [(.chk [] (.c1 .nilck (.t 0))),
    (.chk [] (.c1 (.fld 1) (.t 0))),
    (.chk [] (.c1 .ld1 (.o1 (.fld 1) (.t 0)))),
    (.chk [] (.c2 (.bin .add) (.o1 .ld1 (.o1 (.fld 1) (.t 0))) (.c (.int .i64 1)))),
    (.chk [] (.c1 .nilck (.t 0))),
    (.chk [] (.c1 (.fld 1) (.t 0))),
    (.set 71 (.o2 (.bin .add) (.o1 .ld1 (.o1 (.fld 1) (.t 0))) (.c (.int .i64 1)))),
    (.eff [] none (.store 1) [(.o1 (.fld 1) (.t 0)), (.t 71)] [])])))
def lxGap_L3 : S :=
  (.seq (.seq (.sts [(.chk [] (.c1 .nilck (.t 0))),
    (.chk [] (.c1 (.fld 1) (.t 0))),
    (.chk [] (.c1 .ld1 (.o1 (.fld 1) (.t 0)))),
    (.chk [] (.c1 .nilck (.t 0))),
    (.chk [] (.c1 (.fld 0) (.t 0))),
    (.chk [] (.c1 .ld1 (.o1 (.fld 0) (.t 0)))),
    (.chk [] (.c1 .lens (.o1 .ld1 (.o1 (.fld 0) (.t 0))))),
    (.chk [] (.c2 (.bin .lss) (.o1 .ld1 (.o1 (.fld 1) (.t 0))) (.o1 .lens (.o1 .ld1 (.o1 (.fld 0) (.t 0)))))),
    (.set 105 (.o2 (.bin .lss) (.o1 .ld1 (.o1 (.fld 1) (.t 0))) (.o1 .lens (.o1 .ld1 (.o1 (.fld 0) (.t 0))))))]) (.cond 105 .skip (.exit 5))) (.block 6 (.block 7 (.seq (.sts [(.chk [] (.c1 .nilck (.t 0))),
    (.chk [] (.c1 (.fld 0) (.t 0))),
    (.chk [] (.c1 .ld1 (.o1 (.fld 0) (.t 0)))),
    (.chk [] (.c1 .nilck (.t 0))),
    (.chk [] (.c1 (.fld 1) (.t 0))),
    (.chk [] (.c1 .ld1 (.o1 (.fld 1) (.t 0)))),
    (.chk [] (.c2 .subLo (.o1 .ld1 (.o1 (.fld 0) (.t 0))) (.o1 .ld1 (.o1 (.fld 1) (.t 0))))),
    (.set 122 (.o2 .subLo (.o1 .ld1 (.o1 (.fld 0) (.t 0))) (.o1 .ld1 (.o1 (.fld 1) (.t 0))))),
    (.eff [] (some 123) (.call 56) [(.t 122), (.c (str [47, 42]))] []),
    (.set 113 (.t 123))]) (.cond 113 (.seq (.sts [(.chk [] (.c2 (.bin .add) (.t 5) (.c (.int .i64 1)))),
    (.set 125 (.o2 (.bin .add) (.t 5) (.c (.int .i64 1)))),
    (.set 5 (.t 125))]) (.sts [(.chk [] (.c1 .nilck (.t 0))),
    (.chk [] (.c1 (.fld 1) (.t 0))),
    (.chk [] (.c1 .ld1 (.o1 (.fld 1) (.t 0)))),
    (.chk [] (.c2 (.bin .add) (.o1 .ld1 (.o1 (.fld 1) (.t 0))) (.c (.int .i64 2)))),
    (.chk [] (.c1 .nilck (.t 0))),
    (.chk [] (.c1 (.fld 1) (.t 0))),
    (.set 130 (.o2 (.bin .add) (.o1 .ld1 (.o1 (.fld 1) (.t 0))) (.c (.int .i64 2)))),
    (.eff [] none (.store 1) [(.o1 (.fld 1) (.t 0)), (.t 130)] [])])) (.seq (.sts [(.chk [] (.c1 .nilck (.t 0))),
    (.chk [] (.c1 (.fld 0) (.t 0))),
    (.chk [] (.c1 .ld1 (.o1 (.fld 0) (.t 0)))),
    (.chk [] (.c1 .nilck (.t 0))),
    (.chk [] (.c1 (.fld 1) (.t 0))),
    (.chk [] (.c1 .ld1 (.o1 (.fld 1) (.t 0)))),
    (.chk [] (.c2 .subLo (.o1 .ld1 (.o1 (.fld 0) (.t 0))) (.o1 .ld1 (.o1 (.fld 1) (.t 0))))),
    (.set 142 (.o2 .subLo (.o1 .ld1 (.o1 (.fld 0) (.t 0))) (.o1 .ld1 (.o1 (.fld 1) (.t 0))))),
    (.eff [] (some 143) (.call 56) [(.t 142), (.c (str [42, 47]))] []),
    (.set 133 (.t 143))]) (.cond 133 (.seq (.sts [(.chk [] (.c2 (.bin .sub) (.t 5) (.c (.int .i64 1)))),
    (.set 145 (.o2 (.bin .sub) (.t 5) (.c (.int .i64 1)))),
    (.set 5 (.t 145))]) (.seq (.sts [(.chk [] (.c1 .nilck (.t 0))),
    (.chk [] (.c1 (.fld 1) (.t 0))),
    (.chk [] (.c1 .ld1 (.o1 (.fld 1) (.t 0)))),
    (.chk [] (.c2 (.bin .add) (.o1 .ld1 (.o1 (.fld 1) (.t 0))) (.c (.int .i64 2)))),
    (.chk [] (.c1 .nilck (.t 0))),
    (.chk [] (.c1 (.fld 1) (.t 0))),
    (.set 150 (.o2 (.bin .add) (.o1 .ld1 (.o1 (.fld 1) (.t 0))) (.c (.int .i64 2)))),
    (.eff [] none (.store 1) [(.o1 (.fld 1) (.t 0)), (.t 150)] [])]) (.seq (.sts [(.chk [] (.c2 (.bin .eql) (.t 5) (.c (.int .i64 0)))),
    (.set 154 (.o2 (.bin .eql) (.t 5) (.c (.int .i64 0))))]) (.cond 154 (.exit 1) .skip)))) (.sts [(.chk [] (.c1 .nilck (.t 0))),
    (.chk [] (.c1 (.fld 1) (.t 0))),
    (.chk [] (.c1 .ld1 (.o1 (.fld 1) (.t 0)))),
    (.chk [] (.c2 (.bin .add) (.o1 .ld1 (.o1 (.fld 1) (.t 0))) (.c (.int .i64 1)))),
    (.chk [] (.c1 .nilck (.t 0))),
    (.chk [] (.c1 (.fld 1) (.t 0))),
    (.set 110 (.o2 (.bin .add) (.o1 .ld1 (.o1 (.fld 1) (.t 0))) (.c (.int .i64 1)))),
    (.eff [] none (.store 1) [(.o1 (.fld 1) (.t 0)), (.t 110)] [])]))))))))
def lxGap_L1 : S :=
  (.seq (.seq (.sts [(.chk [] (.c1 .nilck (.t 0))),
    (.chk [] (.c1 (.fld 1) (.t 0))),
    (.chk [] (.c1 .ld1 (.o1 (.fld 1) (.t 0)))),
    (.chk [] (.c1 .nilck (.t 0))),
    (.chk [] (.c1 (.fld 0) (.t 0))),
    (.chk [] (.c1 .ld1 (.o1 (.fld 0) (.t 0)))),
    (.chk [] (.c1 .lens (.o1 .ld1 (.o1 (.fld 0) (.t 0))))),
    (.chk [] (.c2 (.bin .lss) (.o1 .ld1 (.o1 (.fld 1) (.t 0))) (.o1 .lens (.o1 .ld1 (.o1 (.fld 0) (.t 0)))))),
    (.set 15 (.o2 (.bin .lss) (.o1 .ld1 (.o1 (.fld 1) (.t 0))) (.o1 .lens (.o1 .ld1 (.o1 (.fld 0) (.t 0))))))]) (.cond 15 .skip (.exit 0))) (.block 1 (.block 2 (.seq (.sts [(.chk [] (.c1 .nilck (.t 0))),
    (.chk [] (.c1 (.fld 0) (.t 0))),
    (.chk [] (.c1 .ld1 (.o1 (.fld 0) (.t 0)))),
    (.chk [] (.c1 .nilck (.t 0))),
    (.chk [] (.c1 (.fld 1) (.t 0))),
    (.chk [] (.c1 .ld1 (.o1 (.fld 1) (.t 0)))),
    (.chk [] (.c2 .idxS (.o1 .ld1 (.o1 (.fld 0) (.t 0))) (.o1 .ld1 (.o1 (.fld 1) (.t 0))))),
    (.set 25 (.o2 .idxS (.o1 .ld1 (.o1 (.fld 0) (.t 0))) (.o1 .ld1 (.o1 (.fld 1) (.t 0))))),
    (.eff [] (some 26) (.call 57) [(.t 25)] []),
    (.set 16 (.t 26))]) (.cond 16 (.sts [(.chk [] (.c1 .nilck (.t 0))),
    (.chk [] (.c1 (.fld 1) (.t 0))),
    (.chk [] (.c1 .ld1 (.o1 (.fld 1) (.t 0)))),
    (.chk [] (.c2 (.bin .add) (.o1 .ld1 (.o1 (.fld 1) (.t 0))) (.c (.int .i64 1)))),
    (.chk [] (.c1 .nilck (.t 0))),
    (.chk [] (.c1 (.fld 1) (.t 0))),
    (.set 31 (.o2 (.bin .add) (.o1 .ld1 (.o1 (.fld 1) (.t 0))) (.c (.int .i64 1)))),
    (.eff [] none (.store 1) [(.o1 (.fld 1) (.t 0)), (.t 31)] [])]) (.seq (.sts [(.chk [] (.c1 .nilck (.t 0))),
    (.chk [] (.c1 (.fld 0) (.t 0))),
    (.chk [] (.c1 .ld1 (.o1 (.fld 0) (.t 0)))),
    (.chk [] (.c1 .nilck (.t 0))),
    (.chk [] (.c1 (.fld 1) (.t 0))),
    (.chk [] (.c1 .ld1 (.o1 (.fld 1) (.t 0)))),
    (.chk [] (.c2 .idxS (.o1 .ld1 (.o1 (.fld 0) (.t 0))) (.o1 .ld1 (.o1 (.fld 1) (.t 0))))),
    (.chk [] (.c2 (.bin .eql) (.o2 .idxS (.o1 .ld1 (.o1 (.fld 0) (.t 0))) (.o1 .ld1 (.o1 (.fld 1) (.t 0)))) (.c (.int .u8 37)))),
    (.set 34 (.o2 (.bin .eql) (.o2 .idxS (.o1 .ld1 (.o1 (.fld 0) (.t 0))) (.o1 .ld1 (.o1 (.fld 1) (.t 0)))) (.c (.int .u8 37))))]) (.cond 34 (.block 3 (.loop lxGap_L2)) (.seq (.sts [(.chk [] (.c1 .nilck (.t 0))),
    (.chk [] (.c1 (.fld 0) (.t 0))),
    (.chk [] (.c1 .ld1 (.o1 (.fld 0) (.t 0)))),
    (.chk [] (.c1 .nilck (.t 0))),
    (.chk [] (.c1 (.fld 1) (.t 0))),
    (.chk [] (.c1 .ld1 (.o1 (.fld 1) (.t 0)))),
    (.chk [] (.c2 .subLo (.o1 .ld1 (.o1 (.fld 0) (.t 0))) (.o1 .ld1 (.o1 (.fld 1) (.t 0))))),
    (.set 83 (.o2 .subLo (.o1 .ld1 (.o1 (.fld 0) (.t 0))) (.o1 .ld1 (.o1 (.fld 1) (.t 0))))),
    (.eff [] (some 84) (.call 56) [(.t 83), (.c (str [47, 42]))] []),
    (.set 74 (.t 84))]) (.cond 74 (.seq (.sts [(.chk [] (.c1 .nilck (.t 0))),
    (.chk [] (.c1 (.fld 1) (.t 0))),
    (.chk [] (.c1 .ld1 (.o1 (.fld 1) (.t 0)))),
    (.set 4 (.o1 .ld1 (.o1 (.fld 1) (.t 0))))]) (.seq (.sts [(.set 5 (.c (.int .i64 1)))]) (.seq (.sts [(.chk [] (.c1 .nilck (.t 0))),
    (.chk [] (.c1 (.fld 1) (.t 0))),
    (.chk [] (.c1 .ld1 (.o1 (.fld 1) (.t 0)))),
    (.chk [] (.c2 (.bin .add) (.o1 .ld1 (.o1 (.fld 1) (.t 0))) (.c (.int .i64 2)))),
    (.chk [] (.c1 .nilck (.t 0))),
    (.chk [] (.c1 (.fld 1) (.t 0))),
    (.set 93 (.o2 (.bin .add) (.o1 .ld1 (.o1 (.fld 1) (.t 0))) (.c (.int .i64 2)))),
    (.eff [] none (.store 1) [(.o1 (.fld 1) (.t 0)), (.t 93)] [])]) (.seq (.block 5 (.loop lxGap_L3)) (.seq (.sts [(.set 2 (.t 4)),
    (.set 3 (.c (.bool false)))]) .ret))))) (.exit 0))))))))))
def lxGap_S : S :=
  (.seq (.sts [(.set 2 (.c (.int .i64 0))),
    (.set 3 (.c (.bool false)))]) (.scope (.seq .skip (.seq (.block 0 (.loop lxGap_L1)) (.seq (.sts [(.chk [] (.c1 .nilck (.t 0))),
    (.chk [] (.c1 (.fld 1) (.t 0))),
    (.chk [] (.c1 .ld1 (.o1 (.fld 1) (.t 0)))),
    (.set 2 (.o1 .ld1 (.o1 (.fld 1) (.t 0)))),
    (.set 3 (.c (.bool true)))]) .ret)))))
def lxGap_E : Res := [(none, (.t 2)), (none, (.t 3))]
theorem lxGap_C : Tryd.f48.body.bind (comp Tryd.prog lxGap_M Tryd.f48.ntmps) = some lxGap_S := by kernel_rfl
theorem lxGap_R : resE Tryd.prog lxGap_M Tryd.f48.results.toList = some lxGap_E := by kernel_rfl
theorem lxGap_H (G : Ctr) (hG : GOk Tryd.prog G) (a0 : Value) {h : H} {K : Value → H → Prop} {KP : List PanicEntry → H → Prop} (Hw : wpS G lxGap_S (retQ lxGap_E (callK K KP)) (envOf 0 [a0] env0) h) : HCX Tryd.prog 48 [a0] h K KP :=
  .inl ⟨by kernel_rfl, hc_of mixed hG Tryd.func48 lxGap_C lxGap_R (of_decide_eq_true (by kernel_rfl)) Hw⟩
end Go.Proofs.YtlenjlidahnklaaDoor
