/- The small statements of functions of the program, as the closed computation gives them (written by a program of ours; checked by the kernel below). -/
import Derived.Test.YtbkpmdgeeolifaaDoorEvB
import Derived.Test.YtbkpmdgeeolifaaDoorProg
import Derived.KernelRfl
namespace Go.Proofs.YtbkpmdgeeolifaaDoor
open Go Go.Ev
theorem mixed : Tryd.prog.follows .mixedOrders = true := by kernel_rfl
def lxIsBlank_M : Nat → Bool := fun i => Nat.testBit 5 i
def lxIsBlank_S : S :=
  (.seq (.sts [(.set 2 (.c (.bool false)))]) (.seq (.sts [(.chk [] (.c2 (.bin .eql) (.t 0) (.c (.int .u8 32)))),
    (.chk [((.o2 (.bin .eql) (.t 0) (.c (.int .u8 32))), false)] (.c2 (.bin .eql) (.t 0) (.c (.int .u8 9)))),
    (.chk [] (.c3 .pick (.o2 (.bin .eql) (.t 0) (.c (.int .u8 32))) (.c (.bool true)) (.o2 (.bin .eql) (.t 0) (.c (.int .u8 9))))),
    (.chk [((.o3 .pick (.o2 (.bin .eql) (.t 0) (.c (.int .u8 32))) (.c (.bool true)) (.o2 (.bin .eql) (.t 0) (.c (.int .u8 9)))), false)] (.c2 (.bin .eql) (.t 0) (.c (.int .u8 10)))),
    (.chk [] (.c3 .pick (.o3 .pick (.o2 (.bin .eql) (.t 0) (.c (.int .u8 32))) (.c (.bool true)) (.o2 (.bin .eql) (.t 0) (.c (.int .u8 9)))) (.c (.bool true)) (.o2 (.bin .eql) (.t 0) (.c (.int .u8 10))))),
    (.chk [((.o3 .pick (.o3 .pick (.o2 (.bin .eql) (.t 0) (.c (.int .u8 32))) (.c (.bool true)) (.o2 (.bin .eql) (.t 0) (.c (.int .u8 9)))) (.c (.bool true)) (.o2 (.bin .eql) (.t 0) (.c (.int .u8 10)))), false)] (.c2 (.bin .eql) (.t 0) (.c (.int .u8 13)))),
    (.chk [] (.c3 .pick (.o3 .pick (.o3 .pick (.o2 (.bin .eql) (.t 0) (.c (.int .u8 32))) (.c (.bool true)) (.o2 (.bin .eql) (.t 0) (.c (.int .u8 9)))) (.c (.bool true)) (.o2 (.bin .eql) (.t 0) (.c (.int .u8 10)))) (.c (.bool true)) (.o2 (.bin .eql) (.t 0) (.c (.int .u8 13))))),
    (.set 2 (.o3 .pick (.o3 .pick (.o3 .pick (.o2 (.bin .eql) (.t 0) (.c (.int .u8 32))) (.c (.bool true)) (.o2 (.bin .eql) (.t 0) (.c (.int .u8 9)))) (.c (.bool true)) (.o2 (.bin .eql) (.t 0) (.c (.int .u8 10)))) (.c (.bool true)) (.o2 (.bin .eql) (.t 0) (.c (.int .u8 13)))))]) .ret))
def lxIsBlank_E : Res := [(none, (.t 2))]
theorem lxIsBlank_C : Tryd.f64.body.bind (comp Tryd.prog lxIsBlank_M Tryd.f64.ntmps) = some lxIsBlank_S := by kernel_rfl
theorem lxIsBlank_R : resE Tryd.prog lxIsBlank_M Tryd.f64.results.toList = some lxIsBlank_E := by kernel_rfl
theorem lxIsBlank_H (G : Ctr) (hG : GOk Tryd.prog G) (a0 : Value) {h : H} {K : Value → H → Prop} {KP : List PanicEntry → H → Prop} (Hw : wpS G lxIsBlank_S (retQ lxIsBlank_E (callK K KP)) (envOf 0 [a0] env0) h) : HCX Tryd.prog 64 [a0] h K KP :=
  .inl ⟨by kernel_rfl, hc_of mixed hG Tryd.func64 lxIsBlank_C lxIsBlank_R (of_decide_eq_true (by kernel_rfl)) Hw⟩
def slHasPrefix_M : Nat → Bool := fun i => Nat.testBit 19 i
def slHasPrefix_S : S :=
  (.seq (.sts [(.set 4 (.c (.bool false)))]) (.seq (.sts [(.chk [] (.c1 .lens (.t 0))),
    (.chk [] (.c1 .lens (.t 1))),
    (.chk [] (.c2 (.bin .geq) (.o1 .lens (.t 0)) (.o1 .lens (.t 1)))),
    (.chk [((.o2 (.bin .geq) (.o1 .lens (.t 0)) (.o1 .lens (.t 1))), true)] (.c1 .lens (.t 1))),
    (.chk [((.o2 (.bin .geq) (.o1 .lens (.t 0)) (.o1 .lens (.t 1))), true)] (.c2 .subHi (.t 0) (.o1 .lens (.t 1)))),
    (.chk [((.o2 (.bin .geq) (.o1 .lens (.t 0)) (.o1 .lens (.t 1))), true)] (.c2 (.bin .eql) (.o2 .subHi (.t 0) (.o1 .lens (.t 1))) (.t 1))),
    (.chk [] (.c3 .pick (.o2 (.bin .geq) (.o1 .lens (.t 0)) (.o1 .lens (.t 1))) (.o2 (.bin .eql) (.o2 .subHi (.t 0) (.o1 .lens (.t 1))) (.t 1)) (.c (.bool false)))),
    (.set 4 (.o3 .pick (.o2 (.bin .geq) (.o1 .lens (.t 0)) (.o1 .lens (.t 1))) (.o2 (.bin .eql) (.o2 .subHi (.t 0) (.o1 .lens (.t 1))) (.t 1)) (.c (.bool false))))]) .ret))
def slHasPrefix_E : Res := [(none, (.t 4))]
theorem slHasPrefix_C : Tryd.f76.body.bind (comp Tryd.prog slHasPrefix_M Tryd.f76.ntmps) = some slHasPrefix_S := by kernel_rfl
theorem slHasPrefix_R : resE Tryd.prog slHasPrefix_M Tryd.f76.results.toList = some slHasPrefix_E := by kernel_rfl
theorem slHasPrefix_H (G : Ctr) (hG : GOk Tryd.prog G) (a0 : Value) (a1 : Value) {h : H} {K : Value → H → Prop} {KP : List PanicEntry → H → Prop} (Hw : wpS G slHasPrefix_S (retQ slHasPrefix_E (callK K KP)) (envOf 0 [a0, a1] env0) h) : HCX Tryd.prog 76 [a0, a1] h K KP :=
  .inl ⟨by kernel_rfl, hc_of mixed hG Tryd.func76 slHasPrefix_C slHasPrefix_R (of_decide_eq_true (by kernel_rfl)) Hw⟩
def stHasPrefix_M : Nat → Bool := fun i => Nat.testBit 19 i
def stHasPrefix_S : S :=
  (.seq (.sts [(.set 4 (.c (.bool false)))]) (.seq (.sts [(.eff [] (some 7) (.call 76) [(.t 0), (.t 1)] []),
    (.set 4 (.t 7))]) .ret))
def stHasPrefix_E : Res := [(none, (.t 4))]
theorem stHasPrefix_C : Tryd.f62.body.bind (comp Tryd.prog stHasPrefix_M Tryd.f62.ntmps) = some stHasPrefix_S := by kernel_rfl
theorem stHasPrefix_R : resE Tryd.prog stHasPrefix_M Tryd.f62.results.toList = some stHasPrefix_E := by kernel_rfl
theorem stHasPrefix_H (G : Ctr) (hG : GOk Tryd.prog G) (a0 : Value) (a1 : Value) {h : H} {K : Value → H → Prop} {KP : List PanicEntry → H → Prop} (Hw : wpS G stHasPrefix_S (retQ stHasPrefix_E (callK K KP)) (envOf 0 [a0, a1] env0) h) : HCX Tryd.prog 62 [a0, a1] h K KP :=
  .inl ⟨by kernel_rfl, hc_of mixed hG Tryd.func62 stHasPrefix_C stHasPrefix_R (of_decide_eq_true (by kernel_rfl)) Hw⟩
def lxGap_M : Nat → Bool := fun i => Nat.testBit 22835973972341524725499702261030176676466753597 i
def lxGap_L2 : S :=
  (.seq (.seq (.sts [(.chk [] (.c1 .nilck (.t 0))),
    (.chk [] (.c1 (.fld 1) (.t 0))),
    (.chk [] (.c1 .ld1 (.o1 (.fld 1) (.t 0)))),
    (.chk [] (.c1 .nilck (.t 0))),
    (.chk [] (.c1 (.fld 0) (.t 0))),
    (.chk [] (.c1 .ld1 (.o1 (.fld 0) (.t 0)))),
    (.chk [] (.c1 .lens (.o1 .ld1 (.o1 (.fld 0) (.t 0))))),
    (.chk [] (.c2 (.bin .lss) (.o1 .ld1 (.o1 (.fld 1) (.t 0))) (.o1 .lens (.o1 .ld1 (.o1 (.fld 0) (.t 0)))))),
    (.chk [((.o2 (.bin .lss) (.o1 .ld1 (.o1 (.fld 1) (.t 0))) (.o1 .lens (.o1 .ld1 (.o1 (.fld 0) (.t 0))))), true)] (.c1 .nilck (.t 0))),
    (.chk [((.o2 (.bin .lss) (.o1 .ld1 (.o1 (.fld 1) (.t 0))) (.o1 .lens (.o1 .ld1 (.o1 (.fld 0) (.t 0))))), true)] (.c1 (.fld 0) (.t 0))),
    (.chk [((.o2 (.bin .lss) (.o1 .ld1 (.o1 (.fld 1) (.t 0))) (.o1 .lens (.o1 .ld1 (.o1 (.fld 0) (.t 0))))), true)] (.c1 .ld1 (.o1 (.fld 0) (.t 0)))),
    (.chk [((.o2 (.bin .lss) (.o1 .ld1 (.o1 (.fld 1) (.t 0))) (.o1 .lens (.o1 .ld1 (.o1 (.fld 0) (.t 0))))), true)] (.c1 .nilck (.t 0))),
    (.chk [((.o2 (.bin .lss) (.o1 .ld1 (.o1 (.fld 1) (.t 0))) (.o1 .lens (.o1 .ld1 (.o1 (.fld 0) (.t 0))))), true)] (.c1 (.fld 1) (.t 0))),
    (.chk [((.o2 (.bin .lss) (.o1 .ld1 (.o1 (.fld 1) (.t 0))) (.o1 .lens (.o1 .ld1 (.o1 (.fld 0) (.t 0))))), true)] (.c1 .ld1 (.o1 (.fld 1) (.t 0)))),
    (.chk [((.o2 (.bin .lss) (.o1 .ld1 (.o1 (.fld 1) (.t 0))) (.o1 .lens (.o1 .ld1 (.o1 (.fld 0) (.t 0))))), true)] (.c2 .idxS (.o1 .ld1 (.o1 (.fld 0) (.t 0))) (.o1 .ld1 (.o1 (.fld 1) (.t 0))))),
    (.chk [((.o2 (.bin .lss) (.o1 .ld1 (.o1 (.fld 1) (.t 0))) (.o1 .lens (.o1 .ld1 (.o1 (.fld 0) (.t 0))))), true)] (.c2 (.bin .neq) (.o2 .idxS (.o1 .ld1 (.o1 (.fld 0) (.t 0))) (.o1 .ld1 (.o1 (.fld 1) (.t 0)))) (.c (.int .u8 10)))),
    (.chk [] (.c3 .pick (.o2 (.bin .lss) (.o1 .ld1 (.o1 (.fld 1) (.t 0))) (.o1 .lens (.o1 .ld1 (.o1 (.fld 0) (.t 0))))) (.o2 (.bin .neq) (.o2 .idxS (.o1 .ld1 (.o1 (.fld 0) (.t 0))) (.o1 .ld1 (.o1 (.fld 1) (.t 0)))) (.c (.int .u8 10))) (.c (.bool false)))),
    (.set 66 (.o3 .pick (.o2 (.bin .lss) (.o1 .ld1 (.o1 (.fld 1) (.t 0))) (.o1 .lens (.o1 .ld1 (.o1 (.fld 0) (.t 0))))) (.o2 (.bin .neq) (.o2 .idxS (.o1 .ld1 (.o1 (.fld 0) (.t 0))) (.o1 .ld1 (.o1 (.fld 1) (.t 0)))) (.c (.int .u8 10))) (.c (.bool false))))]) (.cond 66 .skip (.exit 3))) (.block 4 (.sts [(.chk [] (.c1 .nilck (.t 0))),
    (.chk [] (.c1 (.fld 1) (.t 0))),
    (.chk [] (.c1 .ld1 (.o1 (.fld 1) (.t 0)))),
    (.chk [] (.c2 (.bin .add) (.o1 .ld1 (.o1 (.fld 1) (.t 0))) (.c (.int .i64 1)))),
    (.chk [] (.c1 .nilck (.t 0))),
    (.chk [] (.c1 (.fld 1) (.t 0))),
    (.set 71 (.o2 (.bin .add) (.o1 .ld1 (.o1 (.fld 1) (.t 0))) (.c (.int .i64 1)))),
    (.eff [] none (.store 1) [(.o1 (.fld 1) (.t 0)), (.t 71)] [])])))
def lxGap_L3 : S :=
  (.seq (.seq (.sts [(.chk [] (.c1 .nilck (.t 0))),
    (.chk [] (.c1 (.fld 1) (.t 0))),
    (.chk [] (.c1 .ld1 (.o1 (.fld 1) (.t 0)))),
    (.chk [] (.c1 .nilck (.t 0))),
    (.chk [] (.c1 (.fld 0) (.t 0))),
    (.chk [] (.c1 .ld1 (.o1 (.fld 0) (.t 0)))),
    (.chk [] (.c1 .lens (.o1 .ld1 (.o1 (.fld 0) (.t 0))))),
    (.chk [] (.c2 (.bin .lss) (.o1 .ld1 (.o1 (.fld 1) (.t 0))) (.o1 .lens (.o1 .ld1 (.o1 (.fld 0) (.t 0)))))),
    (.set 105 (.o2 (.bin .lss) (.o1 .ld1 (.o1 (.fld 1) (.t 0))) (.o1 .lens (.o1 .ld1 (.o1 (.fld 0) (.t 0))))))]) (.cond 105 .skip (.exit 5))) (.block 6 (.block 7 (.seq (.sts [(.chk [] (.c1 .nilck (.t 0))),
    (.chk [] (.c1 (.fld 0) (.t 0))),
    (.chk [] (.c1 .ld1 (.o1 (.fld 0) (.t 0)))),
    (.chk [] (.c1 .nilck (.t 0))),
    (.chk [] (.c1 (.fld 1) (.t 0))),
    (.chk [] (.c1 .ld1 (.o1 (.fld 1) (.t 0)))),
    (.chk [] (.c2 .subLo (.o1 .ld1 (.o1 (.fld 0) (.t 0))) (.o1 .ld1 (.o1 (.fld 1) (.t 0))))),
    (.set 122 (.o2 .subLo (.o1 .ld1 (.o1 (.fld 0) (.t 0))) (.o1 .ld1 (.o1 (.fld 1) (.t 0))))),
    (.eff [] (some 123) (.call 62) [(.t 122), (.c (str [47, 42]))] []),
    (.set 113 (.t 123))]) (.cond 113 (.seq (.sts [(.chk [] (.c2 (.bin .add) (.t 5) (.c (.int .i64 1)))),
    (.set 125 (.o2 (.bin .add) (.t 5) (.c (.int .i64 1)))),
    (.set 5 (.t 125))]) (.sts [(.chk [] (.c1 .nilck (.t 0))),
    (.chk [] (.c1 (.fld 1) (.t 0))),
    (.chk [] (.c1 .ld1 (.o1 (.fld 1) (.t 0)))),
    (.chk [] (.c2 (.bin .add) (.o1 .ld1 (.o1 (.fld 1) (.t 0))) (.c (.int .i64 2)))),
    (.chk [] (.c1 .nilck (.t 0))),
    (.chk [] (.c1 (.fld 1) (.t 0))),
    (.set 130 (.o2 (.bin .add) (.o1 .ld1 (.o1 (.fld 1) (.t 0))) (.c (.int .i64 2)))),
    (.eff [] none (.store 1) [(.o1 (.fld 1) (.t 0)), (.t 130)] [])])) (.seq (.sts [(.chk [] (.c1 .nilck (.t 0))),
    (.chk [] (.c1 (.fld 0) (.t 0))),
    (.chk [] (.c1 .ld1 (.o1 (.fld 0) (.t 0)))),
    (.chk [] (.c1 .nilck (.t 0))),
    (.chk [] (.c1 (.fld 1) (.t 0))),
    (.chk [] (.c1 .ld1 (.o1 (.fld 1) (.t 0)))),
    (.chk [] (.c2 .subLo (.o1 .ld1 (.o1 (.fld 0) (.t 0))) (.o1 .ld1 (.o1 (.fld 1) (.t 0))))),
    (.set 142 (.o2 .subLo (.o1 .ld1 (.o1 (.fld 0) (.t 0))) (.o1 .ld1 (.o1 (.fld 1) (.t 0))))),
    (.eff [] (some 143) (.call 62) [(.t 142), (.c (str [42, 47]))] []),
    (.set 133 (.t 143))]) (.cond 133 (.seq (.sts [(.chk [] (.c2 (.bin .sub) (.t 5) (.c (.int .i64 1)))),
    (.set 145 (.o2 (.bin .sub) (.t 5) (.c (.int .i64 1)))),
    (.set 5 (.t 145))]) (.seq (.sts [(.chk [] (.c1 .nilck (.t 0))),
    (.chk [] (.c1 (.fld 1) (.t 0))),
    (.chk [] (.c1 .ld1 (.o1 (.fld 1) (.t 0)))),
    (.chk [] (.c2 (.bin .add) (.o1 .ld1 (.o1 (.fld 1) (.t 0))) (.c (.int .i64 2)))),
    (.chk [] (.c1 .nilck (.t 0))),
    (.chk [] (.c1 (.fld 1) (.t 0))),
    (.set 150 (.o2 (.bin .add) (.o1 .ld1 (.o1 (.fld 1) (.t 0))) (.c (.int .i64 2)))),
    (.eff [] none (.store 1) [(.o1 (.fld 1) (.t 0)), (.t 150)] [])]) (.seq (.sts [(.chk [] (.c2 (.bin .eql) (.t 5) (.c (.int .i64 0)))),
    (.set 154 (.o2 (.bin .eql) (.t 5) (.c (.int .i64 0))))]) (.cond 154 (.exit 1) .skip)))) (.sts [(.chk [] (.c1 .nilck (.t 0))),
    (.chk [] (.c1 (.fld 1) (.t 0))),
    (.chk [] (.c1 .ld1 (.o1 (.fld 1) (.t 0)))),
    (.chk [] (.c2 (.bin .add) (.o1 .ld1 (.o1 (.fld 1) (.t 0))) (.c (.int .i64 1)))),
    (.chk [] (.c1 .nilck (.t 0))),
    (.chk [] (.c1 (.fld 1) (.t 0))),
    (.set 110 (.o2 (.bin .add) (.o1 .ld1 (.o1 (.fld 1) (.t 0))) (.c (.int .i64 1)))),
    (.eff [] none (.store 1) [(.o1 (.fld 1) (.t 0)), (.t 110)] [])]))))))))
def lxGap_L1 : S :=
  (.seq (.seq (.sts [(.chk [] (.c1 .nilck (.t 0))),
    (.chk [] (.c1 (.fld 1) (.t 0))),
    (.chk [] (.c1 .ld1 (.o1 (.fld 1) (.t 0)))),
    (.chk [] (.c1 .nilck (.t 0))),
    (.chk [] (.c1 (.fld 0) (.t 0))),
    (.chk [] (.c1 .ld1 (.o1 (.fld 0) (.t 0)))),
    (.chk [] (.c1 .lens (.o1 .ld1 (.o1 (.fld 0) (.t 0))))),
    (.chk [] (.c2 (.bin .lss) (.o1 .ld1 (.o1 (.fld 1) (.t 0))) (.o1 .lens (.o1 .ld1 (.o1 (.fld 0) (.t 0)))))),
    (.set 15 (.o2 (.bin .lss) (.o1 .ld1 (.o1 (.fld 1) (.t 0))) (.o1 .lens (.o1 .ld1 (.o1 (.fld 0) (.t 0))))))]) (.cond 15 .skip (.exit 0))) (.block 1 (.block 2 (.seq (.sts [(.chk [] (.c1 .nilck (.t 0))),
    (.chk [] (.c1 (.fld 0) (.t 0))),
    (.chk [] (.c1 .ld1 (.o1 (.fld 0) (.t 0)))),
    (.chk [] (.c1 .nilck (.t 0))),
    (.chk [] (.c1 (.fld 1) (.t 0))),
    (.chk [] (.c1 .ld1 (.o1 (.fld 1) (.t 0)))),
    (.chk [] (.c2 .idxS (.o1 .ld1 (.o1 (.fld 0) (.t 0))) (.o1 .ld1 (.o1 (.fld 1) (.t 0))))),
    (.set 25 (.o2 .idxS (.o1 .ld1 (.o1 (.fld 0) (.t 0))) (.o1 .ld1 (.o1 (.fld 1) (.t 0))))),
    (.eff [] (some 26) (.call 64) [(.t 25)] []),
    (.set 16 (.t 26))]) (.cond 16 (.sts [(.chk [] (.c1 .nilck (.t 0))),
    (.chk [] (.c1 (.fld 1) (.t 0))),
    (.chk [] (.c1 .ld1 (.o1 (.fld 1) (.t 0)))),
    (.chk [] (.c2 (.bin .add) (.o1 .ld1 (.o1 (.fld 1) (.t 0))) (.c (.int .i64 1)))),
    (.chk [] (.c1 .nilck (.t 0))),
    (.chk [] (.c1 (.fld 1) (.t 0))),
    (.set 31 (.o2 (.bin .add) (.o1 .ld1 (.o1 (.fld 1) (.t 0))) (.c (.int .i64 1)))),
    (.eff [] none (.store 1) [(.o1 (.fld 1) (.t 0)), (.t 31)] [])]) (.seq (.sts [(.chk [] (.c1 .nilck (.t 0))),
    (.chk [] (.c1 (.fld 0) (.t 0))),
    (.chk [] (.c1 .ld1 (.o1 (.fld 0) (.t 0)))),
    (.chk [] (.c1 .nilck (.t 0))),
    (.chk [] (.c1 (.fld 1) (.t 0))),
    (.chk [] (.c1 .ld1 (.o1 (.fld 1) (.t 0)))),
    (.chk [] (.c2 .idxS (.o1 .ld1 (.o1 (.fld 0) (.t 0))) (.o1 .ld1 (.o1 (.fld 1) (.t 0))))),
    (.chk [] (.c2 (.bin .eql) (.o2 .idxS (.o1 .ld1 (.o1 (.fld 0) (.t 0))) (.o1 .ld1 (.o1 (.fld 1) (.t 0)))) (.c (.int .u8 37)))),
    (.set 34 (.o2 (.bin .eql) (.o2 .idxS (.o1 .ld1 (.o1 (.fld 0) (.t 0))) (.o1 .ld1 (.o1 (.fld 1) (.t 0)))) (.c (.int .u8 37))))]) (.cond 34 (.block 3 (.loop lxGap_L2)) (.seq (.sts [(.chk [] (.c1 .nilck (.t 0))),
    (.chk [] (.c1 (.fld 0) (.t 0))),
    (.chk [] (.c1 .ld1 (.o1 (.fld 0) (.t 0)))),
    (.chk [] (.c1 .nilck (.t 0))),
    (.chk [] (.c1 (.fld 1) (.t 0))),
    (.chk [] (.c1 .ld1 (.o1 (.fld 1) (.t 0)))),
    (.chk [] (.c2 .subLo (.o1 .ld1 (.o1 (.fld 0) (.t 0))) (.o1 .ld1 (.o1 (.fld 1) (.t 0))))),
    (.set 83 (.o2 .subLo (.o1 .ld1 (.o1 (.fld 0) (.t 0))) (.o1 .ld1 (.o1 (.fld 1) (.t 0))))),
    (.eff [] (some 84) (.call 62) [(.t 83), (.c (str [47, 42]))] []),
    (.set 74 (.t 84))]) (.cond 74 (.seq (.sts [(.chk [] (.c1 .nilck (.t 0))),
    (.chk [] (.c1 (.fld 1) (.t 0))),
    (.chk [] (.c1 .ld1 (.o1 (.fld 1) (.t 0)))),
    (.set 4 (.o1 .ld1 (.o1 (.fld 1) (.t 0))))]) (.seq (.sts [(.set 5 (.c (.int .i64 1)))]) (.seq (.sts [(.chk [] (.c1 .nilck (.t 0))),
    (.chk [] (.c1 (.fld 1) (.t 0))),
    (.chk [] (.c1 .ld1 (.o1 (.fld 1) (.t 0)))),
    (.chk [] (.c2 (.bin .add) (.o1 .ld1 (.o1 (.fld 1) (.t 0))) (.c (.int .i64 2)))),
    (.chk [] (.c1 .nilck (.t 0))),
    (.chk [] (.c1 (.fld 1) (.t 0))),
    (.set 93 (.o2 (.bin .add) (.o1 .ld1 (.o1 (.fld 1) (.t 0))) (.c (.int .i64 2)))),
    (.eff [] none (.store 1) [(.o1 (.fld 1) (.t 0)), (.t 93)] [])]) (.seq (.block 5 (.loop lxGap_L3)) (.seq (.sts [(.set 2 (.t 4)),
    (.set 3 (.c (.bool false)))]) .ret))))) (.exit 0))))))))))
def lxGap_S : S :=
  (.seq (.sts [(.set 2 (.c (.int .i64 0))),
    (.set 3 (.c (.bool false)))]) (.scope (.seq .skip (.seq (.block 0 (.loop lxGap_L1)) (.seq (.sts [(.chk [] (.c1 .nilck (.t 0))),
    (.chk [] (.c1 (.fld 1) (.t 0))),
    (.chk [] (.c1 .ld1 (.o1 (.fld 1) (.t 0)))),
    (.set 2 (.o1 .ld1 (.o1 (.fld 1) (.t 0)))),
    (.set 3 (.c (.bool true)))]) .ret)))))
def lxGap_E : Res := [(none, (.t 2)), (none, (.t 3))]
theorem lxGap_C : Tryd.f42.body.bind (comp Tryd.prog lxGap_M Tryd.f42.ntmps) = some lxGap_S := by kernel_rfl
theorem lxGap_R : resE Tryd.prog lxGap_M Tryd.f42.results.toList = some lxGap_E := by kernel_rfl
theorem lxGap_H (G : Ctr) (hG : GOk Tryd.prog G) (a0 : Value) {h : H} {K : Value → H → Prop} {KP : List PanicEntry → H → Prop} (Hw : wpS G lxGap_S (retQ lxGap_E (callK K KP)) (envOf 0 [a0] env0) h) : HCX Tryd.prog 42 [a0] h K KP :=
  .inl ⟨by kernel_rfl, hc_of mixed hG Tryd.func42 lxGap_C lxGap_R (of_decide_eq_true (by kernel_rfl)) Hw⟩
def lxBlank_M : Nat → Bool := fun i => Nat.testBit 134218439 i
def lxBlank_S : S :=
  (.seq (.sts [(.set 6 (.c (.bool false)))]) (.seq (.seq (.sts [(.chk [] (.c1 .lens (.t 0))),
    (.chk [] (.c2 (.bin .gtr) (.o1 .lens (.t 0)) (.c (.int .i64 65536)))),
    (.chk [((.o2 (.bin .gtr) (.o1 .lens (.t 0)) (.c (.int .i64 65536))), false)] (.c2 (.bin .lss) (.t 1) (.c (.int .i64 0)))),
    (.chk [] (.c3 .pick (.o2 (.bin .gtr) (.o1 .lens (.t 0)) (.c (.int .i64 65536))) (.c (.bool true)) (.o2 (.bin .lss) (.t 1) (.c (.int .i64 0))))),
    (.chk [((.o3 .pick (.o2 (.bin .gtr) (.o1 .lens (.t 0)) (.c (.int .i64 65536))) (.c (.bool true)) (.o2 (.bin .lss) (.t 1) (.c (.int .i64 0)))), false)] (.c2 (.bin .gtr) (.t 1) (.t 2))),
    (.chk [] (.c3 .pick (.o3 .pick (.o2 (.bin .gtr) (.o1 .lens (.t 0)) (.c (.int .i64 65536))) (.c (.bool true)) (.o2 (.bin .lss) (.t 1) (.c (.int .i64 0)))) (.c (.bool true)) (.o2 (.bin .gtr) (.t 1) (.t 2)))),
    (.chk [((.o3 .pick (.o3 .pick (.o2 (.bin .gtr) (.o1 .lens (.t 0)) (.c (.int .i64 65536))) (.c (.bool true)) (.o2 (.bin .lss) (.t 1) (.c (.int .i64 0)))) (.c (.bool true)) (.o2 (.bin .gtr) (.t 1) (.t 2))), false)] (.c1 .lens (.t 0))),
    (.chk [((.o3 .pick (.o3 .pick (.o2 (.bin .gtr) (.o1 .lens (.t 0)) (.c (.int .i64 65536))) (.c (.bool true)) (.o2 (.bin .lss) (.t 1) (.c (.int .i64 0)))) (.c (.bool true)) (.o2 (.bin .gtr) (.t 1) (.t 2))), false)] (.c2 (.bin .gtr) (.t 2) (.o1 .lens (.t 0)))),
    (.chk [] (.c3 .pick (.o3 .pick (.o3 .pick (.o2 (.bin .gtr) (.o1 .lens (.t 0)) (.c (.int .i64 65536))) (.c (.bool true)) (.o2 (.bin .lss) (.t 1) (.c (.int .i64 0)))) (.c (.bool true)) (.o2 (.bin .gtr) (.t 1) (.t 2))) (.c (.bool true)) (.o2 (.bin .gtr) (.t 2) (.o1 .lens (.t 0))))),
    (.set 27 (.o3 .pick (.o3 .pick (.o3 .pick (.o2 (.bin .gtr) (.o1 .lens (.t 0)) (.c (.int .i64 65536))) (.c (.bool true)) (.o2 (.bin .lss) (.t 1) (.c (.int .i64 0)))) (.c (.bool true)) (.o2 (.bin .gtr) (.t 1) (.t 2))) (.c (.bool true)) (.o2 (.bin .gtr) (.t 2) (.o1 .lens (.t 0)))))]) (.cond 27 (.seq (.sts [(.set 6 (.c (.bool false)))]) .ret) .skip)) (.seq (.sts [(.chk [] (.c3 .sub (.t 0) (.t 1) (.t 2))),
    (.chk [] (.cb 2 [(0, (1, (.o3 .sub (.t 0) (.t 1) (.t 2))))])),
    (.eff [] (some 33) (.box 69) [(.o2 (.put 0 1) (.c (.agg #[(str []), (.int .i64 0)])) (.o3 .sub (.t 0) (.t 1) (.t 2)))] []),
    (.set 7 (.t 33))]) (.seq (.sts [(.eff [] (some 36) (.call 42) [(.t 7)] []),
    (.chk [] (.c1 (.ext 0) (.t 36))),
    (.chk [] (.c1 (.ext 1) (.t 36))),
    (.set 9 (.o1 (.ext 1) (.t 36)))]) (.seq (.sts [(.chk [((.t 9), true)] (.c1 .nilck (.t 7))),
    (.chk [((.t 9), true)] (.c1 (.fld 1) (.t 7))),
    (.chk [((.t 9), true)] (.c1 .ld1 (.o1 (.fld 1) (.t 7)))),
    (.chk [((.t 9), true)] (.c1 .nilck (.t 7))),
    (.chk [((.t 9), true)] (.c1 (.fld 0) (.t 7))),
    (.chk [((.t 9), true)] (.c1 .ld1 (.o1 (.fld 0) (.t 7)))),
    (.chk [((.t 9), true)] (.c1 .lens (.o1 .ld1 (.o1 (.fld 0) (.t 7))))),
    (.chk [((.t 9), true)] (.c2 (.bin .eql) (.o1 .ld1 (.o1 (.fld 1) (.t 7))) (.o1 .lens (.o1 .ld1 (.o1 (.fld 0) (.t 7)))))),
    (.chk [] (.c3 .pick (.t 9) (.o2 (.bin .eql) (.o1 .ld1 (.o1 (.fld 1) (.t 7))) (.o1 .lens (.o1 .ld1 (.o1 (.fld 0) (.t 7))))) (.c (.bool false)))),
    (.set 6 (.o3 .pick (.t 9) (.o2 (.bin .eql) (.o1 .ld1 (.o1 (.fld 1) (.t 7))) (.o1 .lens (.o1 .ld1 (.o1 (.fld 0) (.t 7))))) (.c (.bool false))))]) .ret)))))
def lxBlank_E : Res := [(none, (.t 6))]
theorem lxBlank_C : Tryd.f29.body.bind (comp Tryd.prog lxBlank_M Tryd.f29.ntmps) = some lxBlank_S := by kernel_rfl
theorem lxBlank_R : resE Tryd.prog lxBlank_M Tryd.f29.results.toList = some lxBlank_E := by kernel_rfl
theorem lxBlank_H (G : Ctr) (hG : GOk Tryd.prog G) (a0 : Value) (a1 : Value) (a2 : Value) {h : H} {K : Value → H → Prop} {KP : List PanicEntry → H → Prop} (Hw : wpS G lxBlank_S (retQ lxBlank_E (callK K KP)) (envOf 0 [a0, a1, a2] env0) h) : HCX Tryd.prog 29 [a0, a1, a2] h K KP :=
  .inl ⟨by kernel_rfl, hc_of mixed hG Tryd.func29 lxBlank_C lxBlank_R (of_decide_eq_true (by kernel_rfl)) Hw⟩
def rfTwo_M : Nat → Bool := fun i => Nat.testBit 531 i
def rfTwo_S : S :=
  (.seq (.sts [(.set 4 (.c (str [])))]) (.seq (.seq (.sts [(.chk [] (.c2 (.bin .add) (.t 1) (.c (.int .i64 2)))),
    (.chk [] (.c1 .lens (.t 0))),
    (.chk [] (.c2 (.bin .gtr) (.o2 (.bin .add) (.t 1) (.c (.int .i64 2))) (.o1 .lens (.t 0)))),
    (.set 9 (.o2 (.bin .gtr) (.o2 (.bin .add) (.t 1) (.c (.int .i64 2))) (.o1 .lens (.t 0))))]) (.cond 9 (.seq (.sts [(.set 4 (.c (str [])))]) .ret) .skip)) (.seq (.sts [(.chk [] (.c2 (.bin .add) (.t 1) (.c (.int .i64 2)))),
    (.chk [] (.c3 .sub (.t 0) (.t 1) (.o2 (.bin .add) (.t 1) (.c (.int .i64 2))))),
    (.set 4 (.o3 .sub (.t 0) (.t 1) (.o2 (.bin .add) (.t 1) (.c (.int .i64 2)))))]) .ret)))
def rfTwo_E : Res := [(none, (.t 4))]
theorem rfTwo_C : Tryd.f45.body.bind (comp Tryd.prog rfTwo_M Tryd.f45.ntmps) = some rfTwo_S := by kernel_rfl
theorem rfTwo_R : resE Tryd.prog rfTwo_M Tryd.f45.results.toList = some rfTwo_E := by kernel_rfl
theorem rfTwo_H (G : Ctr) (hG : GOk Tryd.prog G) (a0 : Value) (a1 : Value) {h : H} {K : Value → H → Prop} {KP : List PanicEntry → H → Prop} (Hw : wpS G rfTwo_S (retQ rfTwo_E (callK K KP)) (envOf 0 [a0, a1] env0) h) : HCX Tryd.prog 45 [a0, a1] h K KP :=
  .inl ⟨by kernel_rfl, hc_of mixed hG Tryd.func45 rfTwo_C rfTwo_R (of_decide_eq_true (by kernel_rfl)) Hw⟩
def rfBlankB_M : Nat → Bool := fun i => Nat.testBit 5 i
def rfBlankB_S : S :=
  (.seq (.sts [(.set 2 (.c (.bool false)))]) (.seq (.sts [(.chk [] (.c2 (.bin .eql) (.t 0) (.c (.int .u8 32)))),
    (.chk [((.o2 (.bin .eql) (.t 0) (.c (.int .u8 32))), false)] (.c2 (.bin .eql) (.t 0) (.c (.int .u8 9)))),
    (.chk [] (.c3 .pick (.o2 (.bin .eql) (.t 0) (.c (.int .u8 32))) (.c (.bool true)) (.o2 (.bin .eql) (.t 0) (.c (.int .u8 9))))),
    (.chk [((.o3 .pick (.o2 (.bin .eql) (.t 0) (.c (.int .u8 32))) (.c (.bool true)) (.o2 (.bin .eql) (.t 0) (.c (.int .u8 9)))), false)] (.c2 (.bin .eql) (.t 0) (.c (.int .u8 10)))),
    (.chk [] (.c3 .pick (.o3 .pick (.o2 (.bin .eql) (.t 0) (.c (.int .u8 32))) (.c (.bool true)) (.o2 (.bin .eql) (.t 0) (.c (.int .u8 9)))) (.c (.bool true)) (.o2 (.bin .eql) (.t 0) (.c (.int .u8 10))))),
    (.chk [((.o3 .pick (.o3 .pick (.o2 (.bin .eql) (.t 0) (.c (.int .u8 32))) (.c (.bool true)) (.o2 (.bin .eql) (.t 0) (.c (.int .u8 9)))) (.c (.bool true)) (.o2 (.bin .eql) (.t 0) (.c (.int .u8 10)))), false)] (.c2 (.bin .eql) (.t 0) (.c (.int .u8 13)))),
    (.chk [] (.c3 .pick (.o3 .pick (.o3 .pick (.o2 (.bin .eql) (.t 0) (.c (.int .u8 32))) (.c (.bool true)) (.o2 (.bin .eql) (.t 0) (.c (.int .u8 9)))) (.c (.bool true)) (.o2 (.bin .eql) (.t 0) (.c (.int .u8 10)))) (.c (.bool true)) (.o2 (.bin .eql) (.t 0) (.c (.int .u8 13))))),
    (.set 2 (.o3 .pick (.o3 .pick (.o3 .pick (.o2 (.bin .eql) (.t 0) (.c (.int .u8 32))) (.c (.bool true)) (.o2 (.bin .eql) (.t 0) (.c (.int .u8 9)))) (.c (.bool true)) (.o2 (.bin .eql) (.t 0) (.c (.int .u8 10)))) (.c (.bool true)) (.o2 (.bin .eql) (.t 0) (.c (.int .u8 13)))))]) .ret))
def rfBlankB_E : Res := [(none, (.t 2))]
theorem rfBlankB_C : Tryd.f46.body.bind (comp Tryd.prog rfBlankB_M Tryd.f46.ntmps) = some rfBlankB_S := by kernel_rfl
theorem rfBlankB_R : resE Tryd.prog rfBlankB_M Tryd.f46.results.toList = some rfBlankB_E := by kernel_rfl
theorem rfBlankB_H (G : Ctr) (hG : GOk Tryd.prog G) (a0 : Value) {h : H} {K : Value → H → Prop} {KP : List PanicEntry → H → Prop} (Hw : wpS G rfBlankB_S (retQ rfBlankB_E (callK K KP)) (envOf 0 [a0] env0) h) : HCX Tryd.prog 46 [a0] h K KP :=
  .inl ⟨by kernel_rfl, hc_of mixed hG Tryd.func46 rfBlankB_C rfBlankB_R (of_decide_eq_true (by kernel_rfl)) Hw⟩
def rfComment_M : Nat → Bool := fun i => Nat.testBit 70648052319347 i
def rfComment_L1 : S :=
  (.seq (.seq (.sts [(.chk [] (.c1 .lens (.t 0))),
    (.chk [] (.c2 (.bin .lss) (.t 1) (.o1 .lens (.t 0)))),
    (.chk [((.o2 (.bin .lss) (.t 1) (.o1 .lens (.t 0))), true)] (.c2 .idxS (.t 0) (.t 1))),
    (.chk [((.o2 (.bin .lss) (.t 1) (.o1 .lens (.t 0))), true)] (.c2 (.bin .neq) (.o2 .idxS (.t 0) (.t 1)) (.c (.int .u8 10)))),
    (.chk [] (.c3 .pick (.o2 (.bin .lss) (.t 1) (.o1 .lens (.t 0))) (.o2 (.bin .neq) (.o2 .idxS (.t 0) (.t 1)) (.c (.int .u8 10))) (.c (.bool false)))),
    (.set 20 (.o3 .pick (.o2 (.bin .lss) (.t 1) (.o1 .lens (.t 0))) (.o2 (.bin .neq) (.o2 .idxS (.t 0) (.t 1)) (.c (.int .u8 10))) (.c (.bool false))))]) (.cond 20 .skip (.exit 0))) (.block 1 (.sts [(.chk [] (.c2 (.bin .add) (.t 1) (.c (.int .i64 1)))),
    (.set 22 (.o2 (.bin .add) (.t 1) (.c (.int .i64 1)))),
    (.set 1 (.t 22))])))
def rfComment_L2 : S :=
  (.seq (.seq (.sts [(.chk [] (.c1 .lens (.t 0))),
    (.chk [] (.c2 (.bin .lss) (.t 1) (.o1 .lens (.t 0)))),
    (.set 27 (.o2 (.bin .lss) (.t 1) (.o1 .lens (.t 0))))]) (.cond 27 .skip (.exit 2))) (.block 3 (.seq (.sts [(.eff [] (some 30) (.call 45) [(.t 0), (.t 1)] []),
    (.set 6 (.t 30))]) (.seq (.seq (.sts [(.chk [] (.c2 (.bin .eql) (.t 6) (.c (str [47, 42])))),
    (.set 32 (.o2 (.bin .eql) (.t 6) (.c (str [47, 42]))))]) (.cond 32 (.seq (.sts [(.chk [] (.c2 (.bin .add) (.t 5) (.c (.int .i64 1)))),
    (.set 34 (.o2 (.bin .add) (.t 5) (.c (.int .i64 1)))),
    (.set 5 (.t 34))]) (.sts [(.chk [] (.c2 (.bin .add) (.t 1) (.c (.int .i64 2)))),
    (.set 36 (.o2 (.bin .add) (.t 1) (.c (.int .i64 2)))),
    (.set 1 (.t 36))])) (.seq (.sts [(.chk [] (.c2 (.bin .eql) (.t 6) (.c (str [42, 47])))),
    (.set 38 (.o2 (.bin .eql) (.t 6) (.c (str [42, 47]))))]) (.cond 38 (.seq (.sts [(.chk [] (.c2 (.bin .sub) (.t 5) (.c (.int .i64 1)))),
    (.set 40 (.o2 (.bin .sub) (.t 5) (.c (.int .i64 1)))),
    (.set 5 (.t 40))]) (.sts [(.chk [] (.c2 (.bin .add) (.t 1) (.c (.int .i64 2)))),
    (.set 42 (.o2 (.bin .add) (.t 1) (.c (.int .i64 2)))),
    (.set 1 (.t 42))])) (.sts [(.chk [] (.c2 (.bin .add) (.t 1) (.c (.int .i64 1)))),
    (.set 44 (.o2 (.bin .add) (.t 1) (.c (.int .i64 1)))),
    (.set 1 (.t 44))]))))) (.seq (.sts [(.chk [] (.c2 (.bin .eql) (.t 5) (.c (.int .i64 0)))),
    (.set 46 (.o2 (.bin .eql) (.t 5) (.c (.int .i64 0))))]) (.cond 46 (.seq (.sts [(.set 4 (.t 1))]) .ret) .skip))))))
def rfComment_S : S :=
  (.seq (.sts [(.set 4 (.c (.int .i64 0)))]) (.seq (.seq (.sts [(.chk [] (.c2 .idxS (.t 0) (.t 1))),
    (.chk [] (.c2 (.bin .eql) (.o2 .idxS (.t 0) (.t 1)) (.c (.int .u8 37)))),
    (.set 10 (.o2 (.bin .eql) (.o2 .idxS (.t 0) (.t 1)) (.c (.int .u8 37))))]) (.cond 10 (.seq (.block 0 (.loop rfComment_L1)) (.seq (.sts [(.set 4 (.t 1))]) .ret)) .skip)) (.seq (.sts [(.set 5 (.c (.int .i64 0)))]) (.seq (.block 2 (.loop rfComment_L2)) (.seq (.sts [(.set 4 (.c (.int .i64 (-1))))]) .ret)))))
def rfComment_E : Res := [(none, (.t 4))]
theorem rfComment_C : Tryd.f47.body.bind (comp Tryd.prog rfComment_M Tryd.f47.ntmps) = some rfComment_S := by kernel_rfl
theorem rfComment_R : resE Tryd.prog rfComment_M Tryd.f47.results.toList = some rfComment_E := by kernel_rfl
theorem rfComment_H (G : Ctr) (hG : GOk Tryd.prog G) (a0 : Value) (a1 : Value) {h : H} {K : Value → H → Prop} {KP : List PanicEntry → H → Prop} (Hw : wpS G rfComment_S (retQ rfComment_E (callK K KP)) (envOf 0 [a0, a1] env0) h) : HCX Tryd.prog 47 [a0, a1] h K KP :=
  .inl ⟨by kernel_rfl, hc_of mixed hG Tryd.func47 rfComment_C rfComment_R (of_decide_eq_true (by kernel_rfl)) Hw⟩
def rfGap_M : Nat → Bool := fun i => Nat.testBit 17448569075 i
def rfGap_L1 : S :=
  (.seq (.seq (.sts [(.chk [] (.c1 .lens (.t 0))),
    (.chk [] (.c2 (.bin .lss) (.t 1) (.o1 .lens (.t 0)))),
    (.set 11 (.o2 (.bin .lss) (.t 1) (.o1 .lens (.t 0))))]) (.cond 11 .skip (.exit 0))) (.block 1 (.seq (.sts [(.eff [] (some 14) (.call 45) [(.t 0), (.t 1)] []),
    (.set 6 (.t 14))]) (.seq (.seq (.sts [(.chk [] (.c2 .idxS (.t 0) (.t 1))),
    (.eff [] (some 18) (.call 46) [(.o2 .idxS (.t 0) (.t 1))] [])]) (.cond 18 (.seq (.sts [(.chk [] (.c2 (.bin .add) (.t 1) (.c (.int .i64 1)))),
    (.set 20 (.o2 (.bin .add) (.t 1) (.c (.int .i64 1)))),
    (.set 1 (.t 20))]) (.exit 1)) .skip)) (.seq (.seq (.sts [(.chk [] (.c2 .idxS (.t 0) (.t 1))),
    (.chk [] (.c2 (.bin .neq) (.o2 .idxS (.t 0) (.t 1)) (.c (.int .u8 37)))),
    (.chk [((.o2 (.bin .neq) (.o2 .idxS (.t 0) (.t 1)) (.c (.int .u8 37))), true)] (.c2 (.bin .neq) (.t 6) (.c (str [47, 42])))),
    (.chk [] (.c3 .pick (.o2 (.bin .neq) (.o2 .idxS (.t 0) (.t 1)) (.c (.int .u8 37))) (.o2 (.bin .neq) (.t 6) (.c (str [47, 42]))) (.c (.bool false)))),
    (.set 28 (.o3 .pick (.o2 (.bin .neq) (.o2 .idxS (.t 0) (.t 1)) (.c (.int .u8 37))) (.o2 (.bin .neq) (.t 6) (.c (str [47, 42]))) (.c (.bool false))))]) (.cond 28 (.seq (.sts [(.set 4 (.t 1)),
    (.set 5 (.c (.int .i64 0)))]) .ret) .skip)) (.seq (.sts [(.eff [] (some 32) (.call 47) [(.t 0), (.t 1)] []),
    (.set 7 (.t 32))]) (.seq (.seq (.sts [(.chk [] (.c2 (.bin .lss) (.t 7) (.c (.int .i64 0)))),
    (.set 34 (.o2 (.bin .lss) (.t 7) (.c (.int .i64 0))))]) (.cond 34 (.seq (.sts [(.set 4 (.t 1)),
    (.set 5 (.c (.int .i64 16)))]) .ret) .skip)) (.sts [(.set 1 (.t 7))]))))))))
def rfGap_S : S :=
  (.seq (.sts [(.set 4 (.c (.int .i64 0))),
    (.set 5 (.c (.int .i64 0)))]) (.seq (.block 0 (.loop rfGap_L1)) (.seq (.sts [(.set 4 (.t 1)),
    (.set 5 (.c (.int .i64 0)))]) .ret)))
def rfGap_E : Res := [(none, (.t 4)), (none, (.t 5))]
theorem rfGap_C : Tryd.f34.body.bind (comp Tryd.prog rfGap_M Tryd.f34.ntmps) = some rfGap_S := by kernel_rfl
theorem rfGap_R : resE Tryd.prog rfGap_M Tryd.f34.results.toList = some rfGap_E := by kernel_rfl
theorem rfGap_H (G : Ctr) (hG : GOk Tryd.prog G) (a0 : Value) (a1 : Value) {h : H} {K : Value → H → Prop} {KP : List PanicEntry → H → Prop} (Hw : wpS G rfGap_S (retQ rfGap_E (callK K KP)) (envOf 0 [a0, a1] env0) h) : HCX Tryd.prog 34 [a0, a1] h K KP :=
  .inl ⟨by kernel_rfl, hc_of mixed hG Tryd.func34 rfGap_C rfGap_R (of_decide_eq_true (by kernel_rfl)) Hw⟩
def rfBlank_M : Nat → Bool := fun i => Nat.testBit 134218695 i
def rfBlank_S : S :=
  (.seq (.sts [(.set 6 (.c (.bool false)))]) (.seq (.seq (.sts [(.chk [] (.c1 .lens (.t 0))),
    (.chk [] (.c2 (.bin .gtr) (.o1 .lens (.t 0)) (.c (.int .i64 65536)))),
    (.chk [((.o2 (.bin .gtr) (.o1 .lens (.t 0)) (.c (.int .i64 65536))), false)] (.c2 (.bin .lss) (.t 1) (.c (.int .i64 0)))),
    (.chk [] (.c3 .pick (.o2 (.bin .gtr) (.o1 .lens (.t 0)) (.c (.int .i64 65536))) (.c (.bool true)) (.o2 (.bin .lss) (.t 1) (.c (.int .i64 0))))),
    (.chk [((.o3 .pick (.o2 (.bin .gtr) (.o1 .lens (.t 0)) (.c (.int .i64 65536))) (.c (.bool true)) (.o2 (.bin .lss) (.t 1) (.c (.int .i64 0)))), false)] (.c1 .lens (.t 0))),
    (.chk [((.o3 .pick (.o2 (.bin .gtr) (.o1 .lens (.t 0)) (.c (.int .i64 65536))) (.c (.bool true)) (.o2 (.bin .lss) (.t 1) (.c (.int .i64 0)))), false)] (.c2 (.bin .gtr) (.t 2) (.o1 .lens (.t 0)))),
    (.chk [] (.c3 .pick (.o3 .pick (.o2 (.bin .gtr) (.o1 .lens (.t 0)) (.c (.int .i64 65536))) (.c (.bool true)) (.o2 (.bin .lss) (.t 1) (.c (.int .i64 0)))) (.c (.bool true)) (.o2 (.bin .gtr) (.t 2) (.o1 .lens (.t 0))))),
    (.chk [((.o3 .pick (.o3 .pick (.o2 (.bin .gtr) (.o1 .lens (.t 0)) (.c (.int .i64 65536))) (.c (.bool true)) (.o2 (.bin .lss) (.t 1) (.c (.int .i64 0)))) (.c (.bool true)) (.o2 (.bin .gtr) (.t 2) (.o1 .lens (.t 0)))), false)] (.c2 (.bin .gtr) (.t 1) (.t 2))),
    (.chk [] (.c3 .pick (.o3 .pick (.o3 .pick (.o2 (.bin .gtr) (.o1 .lens (.t 0)) (.c (.int .i64 65536))) (.c (.bool true)) (.o2 (.bin .lss) (.t 1) (.c (.int .i64 0)))) (.c (.bool true)) (.o2 (.bin .gtr) (.t 2) (.o1 .lens (.t 0)))) (.c (.bool true)) (.o2 (.bin .gtr) (.t 1) (.t 2)))),
    (.set 27 (.o3 .pick (.o3 .pick (.o3 .pick (.o2 (.bin .gtr) (.o1 .lens (.t 0)) (.c (.int .i64 65536))) (.c (.bool true)) (.o2 (.bin .lss) (.t 1) (.c (.int .i64 0)))) (.c (.bool true)) (.o2 (.bin .gtr) (.t 2) (.o1 .lens (.t 0)))) (.c (.bool true)) (.o2 (.bin .gtr) (.t 1) (.t 2))))]) (.cond 27 (.seq (.sts [(.set 6 (.c (.bool false)))]) .ret) .skip)) (.seq (.sts [(.chk [] (.c3 .sub (.t 0) (.t 1) (.t 2))),
    (.set 7 (.o3 .sub (.t 0) (.t 1) (.t 2)))]) (.seq (.sts [(.eff [] (some 34) (.call 34) [(.t 7), (.c (.int .i64 0))] []),
    (.chk [] (.c1 (.ext 0) (.t 34))),
    (.chk [] (.c1 (.ext 1) (.t 34))),
    (.set 8 (.o1 (.ext 0) (.t 34))),
    (.set 9 (.o1 (.ext 1) (.t 34)))]) (.seq (.sts [(.chk [] (.c2 (.bin .eql) (.t 9) (.c (.int .i64 0)))),
    (.chk [((.o2 (.bin .eql) (.t 9) (.c (.int .i64 0))), true)] (.c1 .lens (.t 7))),
    (.chk [((.o2 (.bin .eql) (.t 9) (.c (.int .i64 0))), true)] (.c2 (.bin .eql) (.t 8) (.o1 .lens (.t 7)))),
    (.chk [] (.c3 .pick (.o2 (.bin .eql) (.t 9) (.c (.int .i64 0))) (.o2 (.bin .eql) (.t 8) (.o1 .lens (.t 7))) (.c (.bool false)))),
    (.set 6 (.o3 .pick (.o2 (.bin .eql) (.t 9) (.c (.int .i64 0))) (.o2 (.bin .eql) (.t 8) (.o1 .lens (.t 7))) (.c (.bool false))))]) .ret)))))
def rfBlank_E : Res := [(none, (.t 6))]
theorem rfBlank_C : Tryd.f65.body.bind (comp Tryd.prog rfBlank_M Tryd.f65.ntmps) = some rfBlank_S := by kernel_rfl
theorem rfBlank_R : resE Tryd.prog rfBlank_M Tryd.f65.results.toList = some rfBlank_E := by kernel_rfl
theorem rfBlank_H (G : Ctr) (hG : GOk Tryd.prog G) (a0 : Value) (a1 : Value) (a2 : Value) {h : H} {K : Value → H → Prop} {KP : List PanicEntry → H → Prop} (Hw : wpS G rfBlank_S (retQ rfBlank_E (callK K KP)) (envOf 0 [a0, a1, a2] env0) h) : HCX Tryd.prog 65 [a0, a1, a2] h K KP :=
  .inl ⟨by kernel_rfl, hc_of mixed hG Tryd.func65 rfBlank_C rfBlank_R (of_decide_eq_true (by kernel_rfl)) Hw⟩
def LexBlank_M : Nat → Bool := fun i => Nat.testBit 71 i
def LexBlank_S : S :=
  (.seq (.sts [(.set 6 (.c (.bool false)))]) (.seq (.sts [(.eff [] (some 10) (.call 29) [(.t 0), (.t 1), (.t 2)] []),
    (.eff [] (some 14) (.call 65) [(.t 0), (.t 1), (.t 2)] []),
    (.chk [] (.c2 (.eqb false) (.t 10) (.t 14))),
    (.set 6 (.o2 (.eqb false) (.t 10) (.t 14)))]) .ret))
def LexBlank_E : Res := [(none, (.t 6))]
theorem LexBlank_C : Tryd.f43.body.bind (comp Tryd.prog LexBlank_M Tryd.f43.ntmps) = some LexBlank_S := by kernel_rfl
theorem LexBlank_R : resE Tryd.prog LexBlank_M Tryd.f43.results.toList = some LexBlank_E := by kernel_rfl
theorem LexBlank_H (G : Ctr) (hG : GOk Tryd.prog G) (a0 : Value) (a1 : Value) (a2 : Value) {h : H} {K : Value → H → Prop} {KP : List PanicEntry → H → Prop} (Hw : wpS G LexBlank_S (retQ LexBlank_E (callK K KP)) (envOf 0 [a0, a1, a2] env0) h) : HCX Tryd.prog 43 [a0, a1, a2] h K KP :=
  .inl ⟨by kernel_rfl, hc_of mixed hG Tryd.func43 LexBlank_C LexBlank_R (of_decide_eq_true (by kernel_rfl)) Hw⟩
end Go.Proofs.YtbkpmdgeeolifaaDoor
