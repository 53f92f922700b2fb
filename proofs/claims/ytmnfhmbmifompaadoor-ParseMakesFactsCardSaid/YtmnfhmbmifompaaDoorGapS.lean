/- The small statements of functions of the program, as the closed computation gives them (written by a program of ours; checked by the kernel below). -/
import Derived.Test.YtmnfhmbmifompaaDoorEvB
import Derived.Test.YtmnfhmbmifompaaDoorProg
import Derived.KernelRfl
namespace Go.Proofs.YtmnfhmbmifompaaDoor
open Go Go.Ev
theorem mixed : Tryd.prog.follows .mixedOrders = true := by kernel_rfl
def lxIsBlank_M : Nat → Bool := fun i => Nat.testBit 5 i
def lxIsBlank_S : S :=
  (.seq (.sts [(.set 2 (.c (.bool false)))]) (.seq (.sts [(.chk [] (.c2 (.bin .eql) (.t 0) (.c (.int .u8 32)))),
    (.chk [((.o2 (.bin .eql) (.t 0) (.c (.int .u8 32))), false)] (.c2 (.bin .eql) (.t 0) (.c (.int .u8 9)))),
    (.chk [] (.c3 .pick (.o2 (.bin .eql) (.t 0) (.c (.int .u8 32))) (.c (.bool true)) (.o2 (.bin .eql) (.t 0) (.c (.int .u8 9))))),
    (.chk [((.o3 .pick (.o2 (.bin .eql) (.t 0) (.c (.int .u8 32))) (.c (.bool true)) (.o2 (.bin .eql) (.t 0) (.c (.int .u8 9)))), false)] (.c2 (.bin .eql) (.t 0) (.c (.int .u8 10)))),
    (.chk [] (.c3 .pick (.o3 .pick (.o2 (.bin .eql) (.t 0) (.c (.int .u8 32))) (.c (.bool true)) (.o2 (.bin .eql) (.t 0) (.c (.int .u8 9)))) (.c (.bool true)) (.o2 (.bin .eql) (.t 0) (.c (.int .u8 10))))),
    (.chk [((.o3 .pick (.o3 .pick (.o2 (.bin .eql) (.t 0) (.c (.int .u8 32))) (.c (.bool true)) (.o2 (.bin .eql) (.t 0) (.c (.int .u8 9)))) (.c (.bool true)) (.o2 (.bin .eql) (.t 0) (.c (.int .u8 10)))), false)] (.c2 (.bin .eql) (.t 0) (.c (.int .u8 13)))),
    (.chk [] (.c3 .pick (.o3 .pick (.o3 .pick (.o2 (.bin .eql) (.t 0) (.c (.int .u8 32))) (.c (.bool true)) (.o2 (.bin .eql) (.t 0) (.c (.int .u8 9)))) (.c (.bool true)) (.o2 (.bin .eql) (.t 0) (.c (.int .u8 10)))) (.c (.bool true)) (.o2 (.bin .eql) (.t 0) (.c (.int .u8 13))))),
    (.set 2 (.o3 .pick (.o3 .pick (.o3 .pick (.o2 (.bin .eql) (.t 0) (.c (.int .u8 32))) (.c (.bool true)) (.o2 (.bin .eql) (.t 0) (.c (.int .u8 9)))) (.c (.bool true)) (.o2 (.bin .eql) (.t 0) (.c (.int .u8 10)))) (.c (.bool true)) (.o2 (.bin .eql) (.t 0) (.c (.int .u8 13)))))]) .ret))
def lxIsBlank_E : Res := [(none, (.t 2))]
theorem lxIsBlank_C : Tryd.f132.body.bind (comp Tryd.prog lxIsBlank_M Tryd.f132.ntmps) = some lxIsBlank_S := by kernel_rfl
theorem lxIsBlank_R : resE Tryd.prog lxIsBlank_M Tryd.f132.results.toList = some lxIsBlank_E := by kernel_rfl
theorem lxIsBlank_H (G : Ctr) (hG : GOk Tryd.prog G) (a0 : Value) {h : H} {K : Value → H → Prop} {KP : List PanicEntry → H → Prop} (Hw : wpS G lxIsBlank_S (retQ lxIsBlank_E (callK K KP)) (envOf 0 [a0] env0) h) : HCX Tryd.prog 132 [a0] h K KP :=
  .inl ⟨by kernel_rfl, hc_of mixed hG Tryd.func132 lxIsBlank_C lxIsBlank_R (of_decide_eq_true (by kernel_rfl)) Hw⟩
def slHasPrefix_M : Nat → Bool := fun i => Nat.testBit 19 i
def slHasPrefix_S : S :=
  (.seq (.sts [(.set 4 (.c (.bool false)))]) (.seq (.sts [(.chk [] (.c1 .lens (.t 0))),
    (.chk [] (.c1 .lens (.t 1))),
    (.chk [] (.c2 (.bin .geq) (.o1 .lens (.t 0)) (.o1 .lens (.t 1)))),
    (.chk [((.o2 (.bin .geq) (.o1 .lens (.t 0)) (.o1 .lens (.t 1))), true)] (.c1 .lens (.t 1))),
    (.chk [((.o2 (.bin .geq) (.o1 .lens (.t 0)) (.o1 .lens (.t 1))), true)] (.c2 .subHi (.t 0) (.o1 .lens (.t 1)))),
    (.chk [((.o2 (.bin .geq) (.o1 .lens (.t 0)) (.o1 .lens (.t 1))), true)] (.c2 (.bin .eql) (.o2 .subHi (.t 0) (.o1 .lens (.t 1))) (.t 1))),
    (.chk [] (.c3 .pick (.o2 (.bin .geq) (.o1 .lens (.t 0)) (.o1 .lens (.t 1))) (.o2 (.bin .eql) (.o2 .subHi (.t 0) (.o1 .lens (.t 1))) (.t 1)) (.c (.bool false)))),
    (.set 4 (.o3 .pick (.o2 (.bin .geq) (.o1 .lens (.t 0)) (.o1 .lens (.t 1))) (.o2 (.bin .eql) (.o2 .subHi (.t 0) (.o1 .lens (.t 1))) (.t 1)) (.c (.bool false))))]) .ret))
def slHasPrefix_E : Res := [(none, (.t 4))]
theorem slHasPrefix_C : Tryd.f138.body.bind (comp Tryd.prog slHasPrefix_M Tryd.f138.ntmps) = some slHasPrefix_S := by kernel_rfl
theorem slHasPrefix_R : resE Tryd.prog slHasPrefix_M Tryd.f138.results.toList = some slHasPrefix_E := by kernel_rfl
theorem slHasPrefix_H (G : Ctr) (hG : GOk Tryd.prog G) (a0 : Value) (a1 : Value) {h : H} {K : Value → H → Prop} {KP : List PanicEntry → H → Prop} (Hw : wpS G slHasPrefix_S (retQ slHasPrefix_E (callK K KP)) (envOf 0 [a0, a1] env0) h) : HCX Tryd.prog 138 [a0, a1] h K KP :=
  .inl ⟨by kernel_rfl, hc_of mixed hG Tryd.func138 slHasPrefix_C slHasPrefix_R (of_decide_eq_true (by kernel_rfl)) Hw⟩
def stHasPrefix_M : Nat → Bool := fun i => Nat.testBit 19 i
def stHasPrefix_S : S :=
  (.seq (.sts [(.set 4 (.c (.bool false)))]) (.seq (.sts [(.eff [] (some 7) (.call 138) [(.t 0), (.t 1)] []),
    (.set 4 (.t 7))]) .ret))
def stHasPrefix_E : Res := [(none, (.t 4))]
theorem stHasPrefix_C : Tryd.f118.body.bind (comp Tryd.prog stHasPrefix_M Tryd.f118.ntmps) = some stHasPrefix_S := by kernel_rfl
theorem stHasPrefix_R : resE Tryd.prog stHasPrefix_M Tryd.f118.results.toList = some stHasPrefix_E := by kernel_rfl
theorem stHasPrefix_H (G : Ctr) (hG : GOk Tryd.prog G) (a0 : Value) (a1 : Value) {h : H} {K : Value → H → Prop} {KP : List PanicEntry → H → Prop} (Hw : wpS G stHasPrefix_S (retQ stHasPrefix_E (callK K KP)) (envOf 0 [a0, a1] env0) h) : HCX Tryd.prog 118 [a0, a1] h K KP :=
  .inl ⟨by kernel_rfl, hc_of mixed hG Tryd.func118 stHasPrefix_C stHasPrefix_R (of_decide_eq_true (by kernel_rfl)) Hw⟩
def lxGap_M : Nat → Bool := fun i => Nat.testBit 22835973972341524725499702261030176676466753597 i
def lxGap_L2 : S :=
  (.seq (.seq (.sts [(.chk [] (.c1 .nilck (.t 0))),
    (.chk [] (.c1 (.fld 1) (.t 0))),
    (.chk [] (.c1 .ld1 (.o1 (.fld 1) (.t 0)))),
    (.chk [] (.c1 .nilck (.t 0))),
    (.chk [] (.c1 (.fld 0) (.t 0))),
    (.chk [] (.c1 .ld1 (.o1 (.fld 0) (.t 0)))),
    (.chk [] (.c1 .lens (.o1 .ld1 (.o1 (.fld 0) (.t 0))))),
    (.chk [] (.c2 (.bin .lss) (.o1 .ld1 (.o1 (.fld 1) (.t 0))) (.o1 .lens (.o1 .ld1 (.o1 (.fld 0) (.t 0)))))),
    (.chk [((.o2 (.bin .lss) (.o1 .ld1 (.o1 (.fld 1) (.t 0))) (.o1 .lens (.o1 .ld1 (.o1 (.fld 0) (.t 0))))), true)] (.c1 .nilck (.t 0))),
    (.chk [((.o2 (.bin .lss) (.o1 .ld1 (.o1 (.fld 1) (.t 0))) (.o1 .lens (.o1 .ld1 (.o1 (.fld 0) (.t 0))))), true)] (.c1 (.fld 0) (.t 0))),
    (.chk [((.o2 (.bin .lss) (.o1 .ld1 (.o1 (.fld 1) (.t 0))) (.o1 .lens (.o1 .ld1 (.o1 (.fld 0) (.t 0))))), true)] (.c1 .ld1 (.o1 (.fld 0) (.t 0)))),
    (.chk [((.o2 (.bin .lss) (.o1 .ld1 (.o1 (.fld 1) (.t 0))) (.o1 .lens (.o1 .ld1 (.o1 (.fld 0) (.t 0))))), true)] (.c1 .nilck (.t 0))),
    (.chk [((.o2 (.bin .lss) (.o1 .ld1 (.o1 (.fld 1) (.t 0))) (.o1 .lens (.o1 .ld1 (.o1 (.fld 0) (.t 0))))), true)] (.c1 (.fld 1) (.t 0))),
    (.chk [((.o2 (.bin .lss) (.o1 .ld1 (.o1 (.fld 1) (.t 0))) (.o1 .lens (.o1 .ld1 (.o1 (.fld 0) (.t 0))))), true)] (.c1 .ld1 (.o1 (.fld 1) (.t 0)))),
    (.chk [((.o2 (.bin .lss) (.o1 .ld1 (.o1 (.fld 1) (.t 0))) (.o1 .lens (.o1 .ld1 (.o1 (.fld 0) (.t 0))))), true)] (.c2 .idxS (.o1 .ld1 (.o1 (.fld 0) (.t 0))) (.o1 .ld1 (.o1 (.fld 1) (.t 0))))),
    (.chk [((.o2 (.bin .lss) (.o1 .ld1 (.o1 (.fld 1) (.t 0))) (.o1 .lens (.o1 .ld1 (.o1 (.fld 0) (.t 0))))), true)] (.c2 (.bin .neq) (.o2 .idxS (.o1 .ld1 (.o1 (.fld 0) (.t 0))) (.o1 .ld1 (.o1 (.fld 1) (.t 0)))) (.c (.int .u8 10)))),
    (.chk [] (.c3 .pick (.o2 (.bin .lss) (.o1 .ld1 (.o1 (.fld 1) (.t 0))) (.o1 .lens (.o1 .ld1 (.o1 (.fld 0) (.t 0))))) (.o2 (.bin .neq) (.o2 .idxS (.o1 .ld1 (.o1 (.fld 0) (.t 0))) (.o1 .ld1 (.o1 (.fld 1) (.t 0)))) (.c (.int .u8 10))) (.c (.bool false)))),
    (.set 66 (.o3 .pick (.o2 (.bin .lss) (.o1 .ld1 (.o1 (.fld 1) (.t 0))) (.o1 .lens (.o1 .ld1 (.o1 (.fld 0) (.t 0))))) (.o2 (.bin .neq) (.o2 .idxS (.o1 .ld1 (.o1 (.fld 0) (.t 0))) (.o1 .ld1 (.o1 (.fld 1) (.t 0)))) (.c (.int .u8 10))) (.c (.bool false))))]) (.cond 66 .skip (.exit 3))) (.block 4 (.sts [(.chk [] (.c1 .nilck (.t 0))),
    (.chk [] (.c1 (.fld 1) (.t 0))),
    (.chk [] (.c1 .ld1 (.o1 (.fld 1) (.t 0)))),
    (.chk [] (.c2 (.bin .add) (.o1 .ld1 (.o1 (.fld 1) (.t 0))) (.c (.int .i64 1)))),
    (.chk [] (.c1 .nilck (.t 0))),
    (.chk [] (.c1 (.fld 1) (.t 0))),
    (.set 71 (.o2 (.bin .add) (.o1 .ld1 (.o1 (.fld 1) (.t 0))) (.c (.int .i64 1)))),
    (.eff [] none (.store 1) [(.o1 (.fld 1) (.t 0)), (.t 71)] [])])))
def lxGap_L3 : S :=
  (.seq (.seq (.sts [(.chk [] (.c1 .nilck (.t 0))),
    (.chk [] (.c1 (.fld 1) (.t 0))),
    (.chk [] (.c1 .ld1 (.o1 (.fld 1) (.t 0)))),
    (.chk [] (.c1 .nilck (.t 0))),
    (.chk [] (.c1 (.fld 0) (.t 0))),
    (.chk [] (.c1 .ld1 (.o1 (.fld 0) (.t 0)))),
    (.chk [] (.c1 .lens (.o1 .ld1 (.o1 (.fld 0) (.t 0))))),
    (.chk [] (.c2 (.bin .lss) (.o1 .ld1 (.o1 (.fld 1) (.t 0))) (.o1 .lens (.o1 .ld1 (.o1 (.fld 0) (.t 0)))))),
    (.set 105 (.o2 (.bin .lss) (.o1 .ld1 (.o1 (.fld 1) (.t 0))) (.o1 .lens (.o1 .ld1 (.o1 (.fld 0) (.t 0))))))]) (.cond 105 .skip (.exit 5))) (.block 6 (.block 7 (.seq (.sts [(.chk [] (.c1 .nilck (.t 0))),
    (.chk [] (.c1 (.fld 0) (.t 0))),
    (.chk [] (.c1 .ld1 (.o1 (.fld 0) (.t 0)))),
    (.chk [] (.c1 .nilck (.t 0))),
    (.chk [] (.c1 (.fld 1) (.t 0))),
    (.chk [] (.c1 .ld1 (.o1 (.fld 1) (.t 0)))),
    (.chk [] (.c2 .subLo (.o1 .ld1 (.o1 (.fld 0) (.t 0))) (.o1 .ld1 (.o1 (.fld 1) (.t 0))))),
    (.set 122 (.o2 .subLo (.o1 .ld1 (.o1 (.fld 0) (.t 0))) (.o1 .ld1 (.o1 (.fld 1) (.t 0))))),
    (.eff [] (some 123) (.call 118) [(.t 122), (.c (str [47, 42]))] []),
    (.set 113 (.t 123))]) (.cond 113 (.seq (.sts [(.chk [] (.c2 (.bin .add) (.t 5) (.c (.int .i64 1)))),
    (.set 125 (.o2 (.bin .add) (.t 5) (.c (.int .i64 1)))),
    (.set 5 (.t 125))]) (.sts [(.chk [] (.c1 .nilck (.t 0))),
    (.chk [] (.c1 (.fld 1) (.t 0))),
    (.chk [] (.c1 .ld1 (.o1 (.fld 1) (.t 0)))),
    (.chk [] (.c2 (.bin .add) (.o1 .ld1 (.o1 (.fld 1) (.t 0))) (.c (.int .i64 2)))),
    (.chk [] (.c1 .nilck (.t 0))),
    (.chk [] (.c1 (.fld 1) (.t 0))),
    (.set 130 (.o2 (.bin .add) (.o1 .ld1 (.o1 (.fld 1) (.t 0))) (.c (.int .i64 2)))),
    (.eff [] none (.store 1) [(.o1 (.fld 1) (.t 0)), (.t 130)] [])])) (.seq (.sts [(.chk [] (.c1 .nilck (.t 0))),
    (.chk [] (.c1 (.fld 0) (.t 0))),
    (.chk [] (.c1 .ld1 (.o1 (.fld 0) (.t 0)))),
    (.chk [] (.c1 .nilck (.t 0))),
    (.chk [] (.c1 (.fld 1) (.t 0))),
    (.chk [] (.c1 .ld1 (.o1 (.fld 1) (.t 0)))),
    (.chk [] (.c2 .subLo (.o1 .ld1 (.o1 (.fld 0) (.t 0))) (.o1 .ld1 (.o1 (.fld 1) (.t 0))))),
    (.set 142 (.o2 .subLo (.o1 .ld1 (.o1 (.fld 0) (.t 0))) (.o1 .ld1 (.o1 (.fld 1) (.t 0))))),
    (.eff [] (some 143) (.call 118) [(.t 142), (.c (str [42, 47]))] []),
    (.set 133 (.t 143))]) (.cond 133 (.seq (.sts [(.chk [] (.c2 (.bin .sub) (.t 5) (.c (.int .i64 1)))),
    (.set 145 (.o2 (.bin .sub) (.t 5) (.c (.int .i64 1)))),
    (.set 5 (.t 145))]) (.seq (.sts [(.chk [] (.c1 .nilck (.t 0))),
    (.chk [] (.c1 (.fld 1) (.t 0))),
    (.chk [] (.c1 .ld1 (.o1 (.fld 1) (.t 0)))),
    (.chk [] (.c2 (.bin .add) (.o1 .ld1 (.o1 (.fld 1) (.t 0))) (.c (.int .i64 2)))),
    (.chk [] (.c1 .nilck (.t 0))),
    (.chk [] (.c1 (.fld 1) (.t 0))),
    (.set 150 (.o2 (.bin .add) (.o1 .ld1 (.o1 (.fld 1) (.t 0))) (.c (.int .i64 2)))),
    (.eff [] none (.store 1) [(.o1 (.fld 1) (.t 0)), (.t 150)] [])]) (.seq (.sts [(.chk [] (.c2 (.bin .eql) (.t 5) (.c (.int .i64 0)))),
    (.set 154 (.o2 (.bin .eql) (.t 5) (.c (.int .i64 0))))]) (.cond 154 (.exit 1) .skip)))) (.sts [(.chk [] (.c1 .nilck (.t 0))),
    (.chk [] (.c1 (.fld 1) (.t 0))),
    (.chk [] (.c1 .ld1 (.o1 (.fld 1) (.t 0)))),
    (.chk [] (.c2 (.bin .add) (.o1 .ld1 (.o1 (.fld 1) (.t 0))) (.c (.int .i64 1)))),
    (.chk [] (.c1 .nilck (.t 0))),
    (.chk [] (.c1 (.fld 1) (.t 0))),
    (.set 110 (.o2 (.bin .add) (.o1 .ld1 (.o1 (.fld 1) (.t 0))) (.c (.int .i64 1)))),
    (.eff [] none (.store 1) [(.o1 (.fld 1) (.t 0)), (.t 110)] [])]))))))))
def lxGap_L1 : S :=
  (.seq (.seq (.sts [(.chk [] (.c1 .nilck (.t 0))),
    (.chk [] (.c1 (.fld 1) (.t 0))),
    (.chk [] (.c1 .ld1 (.o1 (.fld 1) (.t 0)))),
    (.chk [] (.c1 .nilck (.t 0))),
    (.chk [] (.c1 (.fld 0) (.t 0))),
    (.chk [] (.c1 .ld1 (.o1 (.fld 0) (.t 0)))),
    (.chk [] (.c1 .lens (.o1 .ld1 (.o1 (.fld 0) (.t 0))))),
    (.chk [] (.c2 (.bin .lss) (.o1 .ld1 (.o1 (.fld 1) (.t 0))) (.o1 .lens (.o1 .ld1 (.o1 (.fld 0) (.t 0)))))),
    (.set 15 (.o2 (.bin .lss) (.o1 .ld1 (.o1 (.fld 1) (.t 0))) (.o1 .lens (.o1 .ld1 (.o1 (.fld 0) (.t 0))))))]) (.cond 15 .skip (.exit 0))) (.block 1 (.block 2 (.seq (.sts [(.chk [] (.c1 .nilck (.t 0))),
    (.chk [] (.c1 (.fld 0) (.t 0))),
    (.chk [] (.c1 .ld1 (.o1 (.fld 0) (.t 0)))),
    (.chk [] (.c1 .nilck (.t 0))),
    (.chk [] (.c1 (.fld 1) (.t 0))),
    (.chk [] (.c1 .ld1 (.o1 (.fld 1) (.t 0)))),
    (.chk [] (.c2 .idxS (.o1 .ld1 (.o1 (.fld 0) (.t 0))) (.o1 .ld1 (.o1 (.fld 1) (.t 0))))),
    (.set 25 (.o2 .idxS (.o1 .ld1 (.o1 (.fld 0) (.t 0))) (.o1 .ld1 (.o1 (.fld 1) (.t 0))))),
    (.eff [] (some 26) (.call 132) [(.t 25)] []),
    (.set 16 (.t 26))]) (.cond 16 (.sts [(.chk [] (.c1 .nilck (.t 0))),
    (.chk [] (.c1 (.fld 1) (.t 0))),
    (.chk [] (.c1 .ld1 (.o1 (.fld 1) (.t 0)))),
    (.chk [] (.c2 (.bin .add) (.o1 .ld1 (.o1 (.fld 1) (.t 0))) (.c (.int .i64 1)))),
    (.chk [] (.c1 .nilck (.t 0))),
    (.chk [] (.c1 (.fld 1) (.t 0))),
    (.set 31 (.o2 (.bin .add) (.o1 .ld1 (.o1 (.fld 1) (.t 0))) (.c (.int .i64 1)))),
    (.eff [] none (.store 1) [(.o1 (.fld 1) (.t 0)), (.t 31)] [])]) (.seq (.sts [(.chk [] (.c1 .nilck (.t 0))),
    (.chk [] (.c1 (.fld 0) (.t 0))),
    (.chk [] (.c1 .ld1 (.o1 (.fld 0) (.t 0)))),
    (.chk [] (.c1 .nilck (.t 0))),
    (.chk [] (.c1 (.fld 1) (.t 0))),
    (.chk [] (.c1 .ld1 (.o1 (.fld 1) (.t 0)))),
    (.chk [] (.c2 .idxS (.o1 .ld1 (.o1 (.fld 0) (.t 0))) (.o1 .ld1 (.o1 (.fld 1) (.t 0))))),
    (.chk [] (.c2 (.bin .eql) (.o2 .idxS (.o1 .ld1 (.o1 (.fld 0) (.t 0))) (.o1 .ld1 (.o1 (.fld 1) (.t 0)))) (.c (.int .u8 37)))),
    (.set 34 (.o2 (.bin .eql) (.o2 .idxS (.o1 .ld1 (.o1 (.fld 0) (.t 0))) (.o1 .ld1 (.o1 (.fld 1) (.t 0)))) (.c (.int .u8 37))))]) (.cond 34 (.block 3 (.loop lxGap_L2)) (.seq (.sts [(.chk [] (.c1 .nilck (.t 0))),
    (.chk [] (.c1 (.fld 0) (.t 0))),
    (.chk [] (.c1 .ld1 (.o1 (.fld 0) (.t 0)))),
    (.chk [] (.c1 .nilck (.t 0))),
    (.chk [] (.c1 (.fld 1) (.t 0))),
    (.chk [] (.c1 .ld1 (.o1 (.fld 1) (.t 0)))),
    (.chk [] (.c2 .subLo (.o1 .ld1 (.o1 (.fld 0) (.t 0))) (.o1 .ld1 (.o1 (.fld 1) (.t 0))))),
    (.set 83 (.o2 .subLo (.o1 .ld1 (.o1 (.fld 0) (.t 0))) (.o1 .ld1 (.o1 (.fld 1) (.t 0))))),
    (.eff [] (some 84) (.call 118) [(.t 83), (.c (str [47, 42]))] []),
    (.set 74 (.t 84))]) (.cond 74 (.seq (.sts [(.chk [] (.c1 .nilck (.t 0))),
    (.chk [] (.c1 (.fld 1) (.t 0))),
    (.chk [] (.c1 .ld1 (.o1 (.fld 1) (.t 0)))),
    (.set 4 (.o1 .ld1 (.o1 (.fld 1) (.t 0))))]) (.seq (.sts [(.set 5 (.c (.int .i64 1)))]) (.seq (.sts [(.chk [] (.c1 .nilck (.t 0))),
    (.chk [] (.c1 (.fld 1) (.t 0))),
    (.chk [] (.c1 .ld1 (.o1 (.fld 1) (.t 0)))),
    (.chk [] (.c2 (.bin .add) (.o1 .ld1 (.o1 (.fld 1) (.t 0))) (.c (.int .i64 2)))),
    (.chk [] (.c1 .nilck (.t 0))),
    (.chk [] (.c1 (.fld 1) (.t 0))),
    (.set 93 (.o2 (.bin .add) (.o1 .ld1 (.o1 (.fld 1) (.t 0))) (.c (.int .i64 2)))),
    (.eff [] none (.store 1) [(.o1 (.fld 1) (.t 0)), (.t 93)] [])]) (.seq (.block 5 (.loop lxGap_L3)) (.seq (.sts [(.set 2 (.t 4)),
    (.set 3 (.c (.bool false)))]) .ret))))) (.exit 0))))))))))
def lxGap_S : S :=
  (.seq (.sts [(.set 2 (.c (.int .i64 0))),
    (.set 3 (.c (.bool false)))]) (.scope (.seq .skip (.seq (.block 0 (.loop lxGap_L1)) (.seq (.sts [(.chk [] (.c1 .nilck (.t 0))),
    (.chk [] (.c1 (.fld 1) (.t 0))),
    (.chk [] (.c1 .ld1 (.o1 (.fld 1) (.t 0)))),
    (.set 2 (.o1 .ld1 (.o1 (.fld 1) (.t 0)))),
    (.set 3 (.c (.bool true)))]) .ret)))))
def lxGap_E : Res := [(none, (.t 2)), (none, (.t 3))]
theorem lxGap_C : Tryd.f110.body.bind (comp Tryd.prog lxGap_M Tryd.f110.ntmps) = some lxGap_S := by kernel_rfl
theorem lxGap_R : resE Tryd.prog lxGap_M Tryd.f110.results.toList = some lxGap_E := by kernel_rfl
theorem lxGap_H (G : Ctr) (hG : GOk Tryd.prog G) (a0 : Value) {h : H} {K : Value → H → Prop} {KP : List PanicEntry → H → Prop} (Hw : wpS G lxGap_S (retQ lxGap_E (callK K KP)) (envOf 0 [a0] env0) h) : HCX Tryd.prog 110 [a0] h K KP :=
  .inl ⟨by kernel_rfl, hc_of mixed hG Tryd.func110 lxGap_C lxGap_R (of_decide_eq_true (by kernel_rfl)) Hw⟩
def rfTwo_M : Nat → Bool := fun i => Nat.testBit 531 i
def rfTwo_S : S :=
  (.seq (.sts [(.set 4 (.c (str [])))]) (.seq (.seq (.sts [(.chk [] (.c2 (.bin .add) (.t 1) (.c (.int .i64 2)))),
    (.chk [] (.c1 .lens (.t 0))),
    (.chk [] (.c2 (.bin .gtr) (.o2 (.bin .add) (.t 1) (.c (.int .i64 2))) (.o1 .lens (.t 0)))),
    (.set 9 (.o2 (.bin .gtr) (.o2 (.bin .add) (.t 1) (.c (.int .i64 2))) (.o1 .lens (.t 0))))]) (.cond 9 (.seq (.sts [(.set 4 (.c (str [])))]) .ret) .skip)) (.seq (.sts [(.chk [] (.c2 (.bin .add) (.t 1) (.c (.int .i64 2)))),
    (.chk [] (.c3 .sub (.t 0) (.t 1) (.o2 (.bin .add) (.t 1) (.c (.int .i64 2))))),
    (.set 4 (.o3 .sub (.t 0) (.t 1) (.o2 (.bin .add) (.t 1) (.c (.int .i64 2)))))]) .ret)))
def rfTwo_E : Res := [(none, (.t 4))]
theorem rfTwo_C : Tryd.f120.body.bind (comp Tryd.prog rfTwo_M Tryd.f120.ntmps) = some rfTwo_S := by kernel_rfl
theorem rfTwo_R : resE Tryd.prog rfTwo_M Tryd.f120.results.toList = some rfTwo_E := by kernel_rfl
theorem rfTwo_H (G : Ctr) (hG : GOk Tryd.prog G) (a0 : Value) (a1 : Value) {h : H} {K : Value → H → Prop} {KP : List PanicEntry → H → Prop} (Hw : wpS G rfTwo_S (retQ rfTwo_E (callK K KP)) (envOf 0 [a0, a1] env0) h) : HCX Tryd.prog 120 [a0, a1] h K KP :=
  .inl ⟨by kernel_rfl, hc_of mixed hG Tryd.func120 rfTwo_C rfTwo_R (of_decide_eq_true (by kernel_rfl)) Hw⟩
def rfBlankB_M : Nat → Bool := fun i => Nat.testBit 5 i
def rfBlankB_S : S :=
  (.seq (.sts [(.set 2 (.c (.bool false)))]) (.seq (.sts [(.chk [] (.c2 (.bin .eql) (.t 0) (.c (.int .u8 32)))),
    (.chk [((.o2 (.bin .eql) (.t 0) (.c (.int .u8 32))), false)] (.c2 (.bin .eql) (.t 0) (.c (.int .u8 9)))),
    (.chk [] (.c3 .pick (.o2 (.bin .eql) (.t 0) (.c (.int .u8 32))) (.c (.bool true)) (.o2 (.bin .eql) (.t 0) (.c (.int .u8 9))))),
    (.chk [((.o3 .pick (.o2 (.bin .eql) (.t 0) (.c (.int .u8 32))) (.c (.bool true)) (.o2 (.bin .eql) (.t 0) (.c (.int .u8 9)))), false)] (.c2 (.bin .eql) (.t 0) (.c (.int .u8 10)))),
    (.chk [] (.c3 .pick (.o3 .pick (.o2 (.bin .eql) (.t 0) (.c (.int .u8 32))) (.c (.bool true)) (.o2 (.bin .eql) (.t 0) (.c (.int .u8 9)))) (.c (.bool true)) (.o2 (.bin .eql) (.t 0) (.c (.int .u8 10))))),
    (.chk [((.o3 .pick (.o3 .pick (.o2 (.bin .eql) (.t 0) (.c (.int .u8 32))) (.c (.bool true)) (.o2 (.bin .eql) (.t 0) (.c (.int .u8 9)))) (.c (.bool true)) (.o2 (.bin .eql) (.t 0) (.c (.int .u8 10)))), false)] (.c2 (.bin .eql) (.t 0) (.c (.int .u8 13)))),
    (.chk [] (.c3 .pick (.o3 .pick (.o3 .pick (.o2 (.bin .eql) (.t 0) (.c (.int .u8 32))) (.c (.bool true)) (.o2 (.bin .eql) (.t 0) (.c (.int .u8 9)))) (.c (.bool true)) (.o2 (.bin .eql) (.t 0) (.c (.int .u8 10)))) (.c (.bool true)) (.o2 (.bin .eql) (.t 0) (.c (.int .u8 13))))),
    (.set 2 (.o3 .pick (.o3 .pick (.o3 .pick (.o2 (.bin .eql) (.t 0) (.c (.int .u8 32))) (.c (.bool true)) (.o2 (.bin .eql) (.t 0) (.c (.int .u8 9)))) (.c (.bool true)) (.o2 (.bin .eql) (.t 0) (.c (.int .u8 10)))) (.c (.bool true)) (.o2 (.bin .eql) (.t 0) (.c (.int .u8 13)))))]) .ret))
def rfBlankB_E : Res := [(none, (.t 2))]
theorem rfBlankB_C : Tryd.f121.body.bind (comp Tryd.prog rfBlankB_M Tryd.f121.ntmps) = some rfBlankB_S := by kernel_rfl
theorem rfBlankB_R : resE Tryd.prog rfBlankB_M Tryd.f121.results.toList = some rfBlankB_E := by kernel_rfl
theorem rfBlankB_H (G : Ctr) (hG : GOk Tryd.prog G) (a0 : Value) {h : H} {K : Value → H → Prop} {KP : List PanicEntry → H → Prop} (Hw : wpS G rfBlankB_S (retQ rfBlankB_E (callK K KP)) (envOf 0 [a0] env0) h) : HCX Tryd.prog 121 [a0] h K KP :=
  .inl ⟨by kernel_rfl, hc_of mixed hG Tryd.func121 rfBlankB_C rfBlankB_R (of_decide_eq_true (by kernel_rfl)) Hw⟩
def rfComment_M : Nat → Bool := fun i => Nat.testBit 70648052319347 i
def rfComment_L1 : S :=
  (.seq (.seq (.sts [(.chk [] (.c1 .lens (.t 0))),
    (.chk [] (.c2 (.bin .lss) (.t 1) (.o1 .lens (.t 0)))),
    (.chk [((.o2 (.bin .lss) (.t 1) (.o1 .lens (.t 0))), true)] (.c2 .idxS (.t 0) (.t 1))),
    (.chk [((.o2 (.bin .lss) (.t 1) (.o1 .lens (.t 0))), true)] (.c2 (.bin .neq) (.o2 .idxS (.t 0) (.t 1)) (.c (.int .u8 10)))),
    (.chk [] (.c3 .pick (.o2 (.bin .lss) (.t 1) (.o1 .lens (.t 0))) (.o2 (.bin .neq) (.o2 .idxS (.t 0) (.t 1)) (.c (.int .u8 10))) (.c (.bool false)))),
    (.set 20 (.o3 .pick (.o2 (.bin .lss) (.t 1) (.o1 .lens (.t 0))) (.o2 (.bin .neq) (.o2 .idxS (.t 0) (.t 1)) (.c (.int .u8 10))) (.c (.bool false))))]) (.cond 20 .skip (.exit 0))) (.block 1 (.sts [(.chk [] (.c2 (.bin .add) (.t 1) (.c (.int .i64 1)))),
    (.set 22 (.o2 (.bin .add) (.t 1) (.c (.int .i64 1)))),
    (.set 1 (.t 22))])))
def rfComment_L2 : S :=
  (.seq (.seq (.sts [(.chk [] (.c1 .lens (.t 0))),
    (.chk [] (.c2 (.bin .lss) (.t 1) (.o1 .lens (.t 0)))),
    (.set 27 (.o2 (.bin .lss) (.t 1) (.o1 .lens (.t 0))))]) (.cond 27 .skip (.exit 2))) (.block 3 (.seq (.sts [(.eff [] (some 30) (.call 120) [(.t 0), (.t 1)] []),
    (.set 6 (.t 30))]) (.seq (.seq (.sts [(.chk [] (.c2 (.bin .eql) (.t 6) (.c (str [47, 42])))),
    (.set 32 (.o2 (.bin .eql) (.t 6) (.c (str [47, 42]))))]) (.cond 32 (.seq (.sts [(.chk [] (.c2 (.bin .add) (.t 5) (.c (.int .i64 1)))),
    (.set 34 (.o2 (.bin .add) (.t 5) (.c (.int .i64 1)))),
    (.set 5 (.t 34))]) (.sts [(.chk [] (.c2 (.bin .add) (.t 1) (.c (.int .i64 2)))),
    (.set 36 (.o2 (.bin .add) (.t 1) (.c (.int .i64 2)))),
    (.set 1 (.t 36))])) (.seq (.sts [(.chk [] (.c2 (.bin .eql) (.t 6) (.c (str [42, 47])))),
    (.set 38 (.o2 (.bin .eql) (.t 6) (.c (str [42, 47]))))]) (.cond 38 (.seq (.sts [(.chk [] (.c2 (.bin .sub) (.t 5) (.c (.int .i64 1)))),
    (.set 40 (.o2 (.bin .sub) (.t 5) (.c (.int .i64 1)))),
    (.set 5 (.t 40))]) (.sts [(.chk [] (.c2 (.bin .add) (.t 1) (.c (.int .i64 2)))),
    (.set 42 (.o2 (.bin .add) (.t 1) (.c (.int .i64 2)))),
    (.set 1 (.t 42))])) (.sts [(.chk [] (.c2 (.bin .add) (.t 1) (.c (.int .i64 1)))),
    (.set 44 (.o2 (.bin .add) (.t 1) (.c (.int .i64 1)))),
    (.set 1 (.t 44))]))))) (.seq (.sts [(.chk [] (.c2 (.bin .eql) (.t 5) (.c (.int .i64 0)))),
    (.set 46 (.o2 (.bin .eql) (.t 5) (.c (.int .i64 0))))]) (.cond 46 (.seq (.sts [(.set 4 (.t 1))]) .ret) .skip))))))
def rfComment_S : S :=
  (.seq (.sts [(.set 4 (.c (.int .i64 0)))]) (.seq (.seq (.sts [(.chk [] (.c2 .idxS (.t 0) (.t 1))),
    (.chk [] (.c2 (.bin .eql) (.o2 .idxS (.t 0) (.t 1)) (.c (.int .u8 37)))),
    (.set 10 (.o2 (.bin .eql) (.o2 .idxS (.t 0) (.t 1)) (.c (.int .u8 37))))]) (.cond 10 (.seq (.block 0 (.loop rfComment_L1)) (.seq (.sts [(.set 4 (.t 1))]) .ret)) .skip)) (.seq (.sts [(.set 5 (.c (.int .i64 0)))]) (.seq (.block 2 (.loop rfComment_L2)) (.seq (.sts [(.set 4 (.c (.int .i64 (-1))))]) .ret)))))
def rfComment_E : Res := [(none, (.t 4))]
theorem rfComment_C : Tryd.f122.body.bind (comp Tryd.prog rfComment_M Tryd.f122.ntmps) = some rfComment_S := by kernel_rfl
theorem rfComment_R : resE Tryd.prog rfComment_M Tryd.f122.results.toList = some rfComment_E := by kernel_rfl
theorem rfComment_H (G : Ctr) (hG : GOk Tryd.prog G) (a0 : Value) (a1 : Value) {h : H} {K : Value → H → Prop} {KP : List PanicEntry → H → Prop} (Hw : wpS G rfComment_S (retQ rfComment_E (callK K KP)) (envOf 0 [a0, a1] env0) h) : HCX Tryd.prog 122 [a0, a1] h K KP :=
  .inl ⟨by kernel_rfl, hc_of mixed hG Tryd.func122 rfComment_C rfComment_R (of_decide_eq_true (by kernel_rfl)) Hw⟩
def rfGap_M : Nat → Bool := fun i => Nat.testBit 17448569075 i
def rfGap_L1 : S :=
  (.seq (.seq (.sts [(.chk [] (.c1 .lens (.t 0))),
    (.chk [] (.c2 (.bin .lss) (.t 1) (.o1 .lens (.t 0)))),
    (.set 11 (.o2 (.bin .lss) (.t 1) (.o1 .lens (.t 0))))]) (.cond 11 .skip (.exit 0))) (.block 1 (.seq (.sts [(.eff [] (some 14) (.call 120) [(.t 0), (.t 1)] []),
    (.set 6 (.t 14))]) (.seq (.seq (.sts [(.chk [] (.c2 .idxS (.t 0) (.t 1))),
    (.eff [] (some 18) (.call 121) [(.o2 .idxS (.t 0) (.t 1))] [])]) (.cond 18 (.seq (.sts [(.chk [] (.c2 (.bin .add) (.t 1) (.c (.int .i64 1)))),
    (.set 20 (.o2 (.bin .add) (.t 1) (.c (.int .i64 1)))),
    (.set 1 (.t 20))]) (.exit 1)) .skip)) (.seq (.seq (.sts [(.chk [] (.c2 .idxS (.t 0) (.t 1))),
    (.chk [] (.c2 (.bin .neq) (.o2 .idxS (.t 0) (.t 1)) (.c (.int .u8 37)))),
    (.chk [((.o2 (.bin .neq) (.o2 .idxS (.t 0) (.t 1)) (.c (.int .u8 37))), true)] (.c2 (.bin .neq) (.t 6) (.c (str [47, 42])))),
    (.chk [] (.c3 .pick (.o2 (.bin .neq) (.o2 .idxS (.t 0) (.t 1)) (.c (.int .u8 37))) (.o2 (.bin .neq) (.t 6) (.c (str [47, 42]))) (.c (.bool false)))),
    (.set 28 (.o3 .pick (.o2 (.bin .neq) (.o2 .idxS (.t 0) (.t 1)) (.c (.int .u8 37))) (.o2 (.bin .neq) (.t 6) (.c (str [47, 42]))) (.c (.bool false))))]) (.cond 28 (.seq (.sts [(.set 4 (.t 1)),
    (.set 5 (.c (.int .i64 0)))]) .ret) .skip)) (.seq (.sts [(.eff [] (some 32) (.call 122) [(.t 0), (.t 1)] []),
    (.set 7 (.t 32))]) (.seq (.seq (.sts [(.chk [] (.c2 (.bin .lss) (.t 7) (.c (.int .i64 0)))),
    (.set 34 (.o2 (.bin .lss) (.t 7) (.c (.int .i64 0))))]) (.cond 34 (.seq (.sts [(.set 4 (.t 1)),
    (.set 5 (.c (.int .i64 16)))]) .ret) .skip)) (.sts [(.set 1 (.t 7))]))))))))
def rfGap_S : S :=
  (.seq (.sts [(.set 4 (.c (.int .i64 0))),
    (.set 5 (.c (.int .i64 0)))]) (.seq (.block 0 (.loop rfGap_L1)) (.seq (.sts [(.set 4 (.t 1)),
    (.set 5 (.c (.int .i64 0)))]) .ret)))
def rfGap_E : Res := [(none, (.t 4)), (none, (.t 5))]
theorem rfGap_C : Tryd.f104.body.bind (comp Tryd.prog rfGap_M Tryd.f104.ntmps) = some rfGap_S := by kernel_rfl
theorem rfGap_R : resE Tryd.prog rfGap_M Tryd.f104.results.toList = some rfGap_E := by kernel_rfl
theorem rfGap_H (G : Ctr) (hG : GOk Tryd.prog G) (a0 : Value) (a1 : Value) {h : H} {K : Value → H → Prop} {KP : List PanicEntry → H → Prop} (Hw : wpS G rfGap_S (retQ rfGap_E (callK K KP)) (envOf 0 [a0, a1] env0) h) : HCX Tryd.prog 104 [a0, a1] h K KP :=
  .inl ⟨by kernel_rfl, hc_of mixed hG Tryd.func104 rfGap_C rfGap_R (of_decide_eq_true (by kernel_rfl)) Hw⟩
end Go.Proofs.YtmnfhmbmifompaaDoor
