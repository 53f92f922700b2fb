/- The small statements of functions of the program, as the closed computation gives them (written by a program of ours; checked by the kernel below). -/
import Derived.Test.YtmnfhmbmifompaaDoorEvB
import Derived.Test.YtmnfhmbmifompaaDoorProg
import Derived.KernelRfl
import Derived.Test.YtmnfhmbmifompaaDoorPlS
namespace Go.Proofs.YtmnfhmbmifompaaDoor
open Go Go.Ev
def plGap_M : Nat → Bool := fun i => Nat.testBit 11733850653197 i
def plGap_S : S :=
  (.seq (.sts [(.set 2 (.c (str [])))]) (.seq (.seq (.sts [(.chk [] (.c1 .nilck (.t 0))),
    (.chk [] (.c1 (.fld 1) (.t 0))),
    (.chk [] (.c1 .ld1 (.o1 (.fld 1) (.t 0)))),
    (.chk [] (.c1 .len (.o1 .ld1 (.o1 (.fld 1) (.t 0))))),
    (.chk [] (.c2 (.bin .eql) (.o1 .len (.o1 .ld1 (.o1 (.fld 1) (.t 0)))) (.c (.int .i64 0)))),
    (.set 9 (.o2 (.bin .eql) (.o1 .len (.o1 .ld1 (.o1 (.fld 1) (.t 0)))) (.c (.int .i64 0))))]) (.cond 9 (.seq (.sts [(.set 2 (.c (str [])))]) .ret) .skip)) (.seq (.sts [(.chk [] (.c1 .nilck (.t 0))),
    (.chk [] (.c1 (.fld 1) (.t 0))),
    (.chk [] (.c1 .ld1 (.o1 (.fld 1) (.t 0)))),
    (.chk [] (.c1 .nilck (.t 0))),
    (.chk [] (.c1 (.fld 2) (.t 0))),
    (.chk [] (.c1 .ld1 (.o1 (.fld 2) (.t 0)))),
    (.chk [] (.c1 .nilck (.t 0))),
    (.chk [] (.c1 (.fld 1) (.t 0))),
    (.chk [] (.c1 .ld1 (.o1 (.fld 1) (.t 0)))),
    (.chk [] (.c1 .len (.o1 .ld1 (.o1 (.fld 1) (.t 0))))),
    (.chk [] (.c2 (.bin .rem) (.o1 .ld1 (.o1 (.fld 2) (.t 0))) (.o1 .len (.o1 .ld1 (.o1 (.fld 1) (.t 0)))))),
    (.chk [] (.c2 (.idxA 1) (.o1 .ld1 (.o1 (.fld 1) (.t 0))) (.o2 (.bin .rem) (.o1 .ld1 (.o1 (.fld 2) (.t 0))) (.o1 .len (.o1 .ld1 (.o1 (.fld 1) (.t 0))))))),
    (.chk [] (.c1 .ld1 (.o2 (.idxA 1) (.o1 .ld1 (.o1 (.fld 1) (.t 0))) (.o2 (.bin .rem) (.o1 .ld1 (.o1 (.fld 2) (.t 0))) (.o1 .len (.o1 .ld1 (.o1 (.fld 1) (.t 0)))))))),
    (.set 3 (.o1 .ld1 (.o2 (.idxA 1) (.o1 .ld1 (.o1 (.fld 1) (.t 0))) (.o2 (.bin .rem) (.o1 .ld1 (.o1 (.fld 2) (.t 0))) (.o1 .len (.o1 .ld1 (.o1 (.fld 1) (.t 0))))))))]) (.seq (.sts [(.chk [] (.c1 .nilck (.t 0))),
    (.chk [] (.c1 (.fld 2) (.t 0))),
    (.chk [] (.c1 .ld1 (.o1 (.fld 2) (.t 0)))),
    (.chk [] (.c2 (.bin .add) (.o1 .ld1 (.o1 (.fld 2) (.t 0))) (.c (.int .i64 1)))),
    (.chk [] (.c1 .nilck (.t 0))),
    (.chk [] (.c1 (.fld 2) (.t 0))),
    (.set 30 (.o2 (.bin .add) (.o1 .ld1 (.o1 (.fld 2) (.t 0))) (.c (.int .i64 1)))),
    (.eff [] none (.store 1) [(.o1 (.fld 2) (.t 0)), (.t 30)] [])]) (.seq (.seq (.sts [(.eff [] (some 34) (.call 45) [(.t 3), (.c (.int .i64 8))] [])]) (.block 0 (.seq (.sts [(.chk [] (.c2 (.bin .eql) (.t 34) (.c (.int .i64 1)))),
    (.set 35 (.o2 (.bin .eql) (.t 34) (.c (.int .i64 1))))]) (.cond 35 (.seq (.sts [(.set 2 (.c (str [32])))]) .ret) (.seq (.sts [(.chk [] (.c2 (.bin .eql) (.t 34) (.c (.int .i64 2)))),
    (.set 37 (.o2 (.bin .eql) (.t 34) (.c (.int .i64 2))))]) (.cond 37 (.seq (.sts [(.set 2 (.c (str [10])))]) .ret) (.seq (.sts [(.chk [] (.c2 (.bin .eql) (.t 34) (.c (.int .i64 3)))),
    (.set 39 (.o2 (.bin .eql) (.t 34) (.c (.int .i64 3))))]) (.cond 39 (.seq (.sts [(.set 2 (.c (str [9, 32, 13, 10])))]) .ret) (.seq (.sts [(.chk [] (.c2 (.bin .eql) (.t 34) (.c (.int .i64 4)))),
    (.set 41 (.o2 (.bin .eql) (.t 34) (.c (.int .i64 4))))]) (.cond 41 (.seq (.sts [(.set 2 (.c (str [37, 32, 112, 40, 88, 41, 32, 58, 45, 32, 113, 46, 32, 34, 32, 47, 42, 10])))]) .ret) (.seq (.sts [(.chk [] (.c2 (.bin .eql) (.t 34) (.c (.int .i64 5)))),
    (.set 43 (.o2 (.bin .eql) (.t 34) (.c (.int .i64 5))))]) (.cond 43 (.seq (.sts [(.set 2 (.c (str [47, 42, 32, 97, 46, 32, 47, 42, 32, 37, 32, 42, 47, 32, 34, 32, 42, 47])))]) .ret) .skip)))))))))))) (.seq (.sts [(.set 2 (.c (str [])))]) .ret))))))
def plGap_E : Res := [(none, (.t 2))]
theorem plGap_C : Tryd.f66.body.bind (comp Tryd.prog plGap_M Tryd.f66.ntmps) = some plGap_S := by kernel_rfl
theorem plGap_R : resE Tryd.prog plGap_M Tryd.f66.results.toList = some plGap_E := by kernel_rfl
theorem plGap_H (G : Ctr) (hG : GOk Tryd.prog G) (a0 : Value) {h : H} {K : Value → H → Prop} {KP : List PanicEntry → H → Prop} (Hw : wpS G plGap_S (retQ plGap_E (callK K KP)) (envOf 0 [a0] env0) h) : HCX Tryd.prog 66 [a0] h K KP :=
  .inl ⟨by kernel_rfl, hc_of mixed hG Tryd.func66 plGap_C plGap_R (of_decide_eq_true (by kernel_rfl)) Hw⟩
def plPut_M : Nat → Bool := fun i => Nat.testBit 51 i
def plPut_S : S :=
  (.seq (.sts [(.set 4 (.c (.int .i64 0)))]) (.seq (.sts [(.chk [] (.c1 .nilck (.t 0))),
    (.chk [] (.c1 (.fld 0) (.t 0))),
    (.chk [] (.c1 .ld1 (.o1 (.fld 0) (.t 0)))),
    (.set 9 (.o1 .ld1 (.o1 (.fld 0) (.t 0)))),
    (.eff [] (some 11) (.call 66) [(.t 0)] [([], ((.o1 (.fld 0) (.t 0)), none))]),
    (.chk [] (.c2 (.bin .add) (.t 9) (.t 11))),
    (.chk [] (.c1 .nilck (.t 0))),
    (.chk [] (.c1 (.fld 0) (.t 0))),
    (.eff [] none (.store 1) [(.o1 (.fld 0) (.t 0)), (.o2 (.bin .add) (.t 9) (.t 11))] [])]) (.seq (.sts [(.chk [] (.c1 .nilck (.t 0))),
    (.chk [] (.c1 (.fld 0) (.t 0))),
    (.chk [] (.c1 .ld1 (.o1 (.fld 0) (.t 0)))),
    (.chk [] (.c1 .lens (.o1 .ld1 (.o1 (.fld 0) (.t 0))))),
    (.set 5 (.o1 .lens (.o1 .ld1 (.o1 (.fld 0) (.t 0)))))]) (.seq (.sts [(.chk [] (.c1 .nilck (.t 0))),
    (.chk [] (.c1 (.fld 0) (.t 0))),
    (.chk [] (.c1 .ld1 (.o1 (.fld 0) (.t 0)))),
    (.chk [] (.c2 (.bin .add) (.o1 .ld1 (.o1 (.fld 0) (.t 0))) (.t 1))),
    (.chk [] (.c1 .nilck (.t 0))),
    (.chk [] (.c1 (.fld 0) (.t 0))),
    (.set 25 (.o2 (.bin .add) (.o1 .ld1 (.o1 (.fld 0) (.t 0))) (.t 1))),
    (.eff [] none (.store 1) [(.o1 (.fld 0) (.t 0)), (.t 25)] [])]) (.seq (.sts [(.set 4 (.t 5))]) .ret)))))
def plPut_E : Res := [(none, (.t 4))]
theorem plPut_C : Tryd.f26.body.bind (comp Tryd.prog plPut_M Tryd.f26.ntmps) = some plPut_S := by kernel_rfl
theorem plPut_R : resE Tryd.prog plPut_M Tryd.f26.results.toList = some plPut_E := by kernel_rfl
theorem plPut_H (G : Ctr) (hG : GOk Tryd.prog G) (a0 : Value) (a1 : Value) {h : H} {K : Value → H → Prop} {KP : List PanicEntry → H → Prop} (Hw : wpS G plPut_S (retQ plPut_E (callK K KP)) (envOf 0 [a0, a1] env0) h) : HCX Tryd.prog 26 [a0, a1] h K KP :=
  .inl ⟨by kernel_rfl, hc_of mixed hG Tryd.func26 plPut_C plPut_R (of_decide_eq_true (by kernel_rfl)) Hw⟩
def plLong_M : Nat → Bool := fun i => Nat.testBit 141 i
def plLong_L1 : S :=
  (.seq (.seq (.sts [(.chk [] (.c1 .lens (.t 3))),
    (.chk [] (.c2 (.bin .lss) (.o1 .lens (.t 3)) (.c (.int .i64 64)))),
    (.set 7 (.o2 (.bin .lss) (.o1 .lens (.t 3)) (.c (.int .i64 64))))]) (.cond 7 .skip (.exit 0))) (.block 1 (.sts [(.chk [] (.c2 (.bin .add) (.t 3) (.c (str [95])))),
    (.set 9 (.o2 (.bin .add) (.t 3) (.c (str [95])))),
    (.set 3 (.t 9))])))
def plLong_S : S :=
  (.seq (.sts [(.set 2 (.c (str [])))]) (.seq (.sts [(.set 3 (.t 0))]) (.seq (.block 0 (.loop plLong_L1)) (.seq (.sts [(.set 2 (.t 3))]) .ret))))
def plLong_E : Res := [(none, (.t 2))]
theorem plLong_C : Tryd.f93.body.bind (comp Tryd.prog plLong_M Tryd.f93.ntmps) = some plLong_S := by kernel_rfl
theorem plLong_R : resE Tryd.prog plLong_M Tryd.f93.results.toList = some plLong_E := by kernel_rfl
theorem plLong_H (G : Ctr) (hG : GOk Tryd.prog G) (a0 : Value) {h : H} {K : Value → H → Prop} {KP : List PanicEntry → H → Prop} (Hw : wpS G plLong_S (retQ plLong_E (callK K KP)) (envOf 0 [a0] env0) h) : HCX Tryd.prog 93 [a0] h K KP :=
  .inl ⟨by kernel_rfl, hc_of mixed hG Tryd.func93 plLong_C plLong_R (of_decide_eq_true (by kernel_rfl)) Hw⟩
def plNameOf_M : Nat → Bool := fun i => Nat.testBit 699061 i
def plNameOf_S : S :=
  (.seq (.sts [(.set 2 (.c (str [])))]) (.seq (.seq (.sts [(.eff [] (some 4) (.call 45) [(.t 0), (.c (.int .i64 12))] [])]) (.block 0 (.seq (.sts [(.chk [] (.c2 (.bin .eql) (.t 4) (.c (.int .i64 0)))),
    (.set 5 (.o2 (.bin .eql) (.t 4) (.c (.int .i64 0))))]) (.cond 5 (.seq (.sts [(.set 2 (.c (str [97])))]) .ret) (.seq (.sts [(.chk [] (.c2 (.bin .eql) (.t 4) (.c (.int .i64 1)))),
    (.set 7 (.o2 (.bin .eql) (.t 4) (.c (.int .i64 1))))]) (.cond 7 (.seq (.sts [(.set 2 (.c (str [98])))]) .ret) (.seq (.sts [(.chk [] (.c2 (.bin .eql) (.t 4) (.c (.int .i64 2)))),
    (.set 9 (.o2 (.bin .eql) (.t 4) (.c (.int .i64 2))))]) (.cond 9 (.seq (.sts [(.set 2 (.c (str [110, 111, 116, 97])))]) .ret) (.seq (.sts [(.chk [] (.c2 (.bin .eql) (.t 4) (.c (.int .i64 3)))),
    (.set 11 (.o2 (.bin .eql) (.t 4) (.c (.int .i64 3))))]) (.cond 11 (.seq (.sts [(.set 2 (.c (str [110, 111])))]) .ret) (.seq (.sts [(.chk [] (.c2 (.bin .eql) (.t 4) (.c (.int .i64 4)))),
    (.set 13 (.o2 (.bin .eql) (.t 4) (.c (.int .i64 4))))]) (.cond 13 (.seq (.sts [(.set 2 (.c (str [110, 111, 116, 95])))]) .ret) (.seq (.sts [(.chk [] (.c2 (.bin .eql) (.t 4) (.c (.int .i64 5)))),
    (.set 15 (.o2 (.bin .eql) (.t 4) (.c (.int .i64 5))))]) (.cond 15 (.seq (.sts [(.set 2 (.c (str [97, 66, 95, 57])))]) .ret) (.seq (.sts [(.chk [] (.c2 (.bin .eql) (.t 4) (.c (.int .i64 6)))),
    (.set 17 (.o2 (.bin .eql) (.t 4) (.c (.int .i64 6))))]) (.cond 17 (.seq (.sts [(.set 2 (.c (str [110, 79, 116])))]) .ret) (.seq (.sts [(.chk [] (.c2 (.bin .eql) (.t 4) (.c (.int .i64 7)))),
    (.set 19 (.o2 (.bin .eql) (.t 4) (.c (.int .i64 7))))]) (.cond 19 (.seq (.sts [(.eff [] (some 21) (.call 93) [(.c (str [108]))] []),
    (.set 2 (.t 21))]) .ret) .skip)))))))))))))))))) (.seq (.sts [(.eff [] (some 23) (.call 45) [(.t 0), (.c (.int .i64 1000))] []),
    (.eff [] (some 24) (.call 94) [(.t 23)] []),
    (.chk [] (.c2 (.bin .add) (.c (str [112])) (.t 24))),
    (.set 2 (.o2 (.bin .add) (.c (str [112])) (.t 24)))]) .ret)))
def plNameOf_E : Res := [(none, (.t 2))]
theorem plNameOf_C : Tryd.f64.body.bind (comp Tryd.prog plNameOf_M Tryd.f64.ntmps) = some plNameOf_S := by kernel_rfl
theorem plNameOf_R : resE Tryd.prog plNameOf_M Tryd.f64.results.toList = some plNameOf_E := by kernel_rfl
theorem plNameOf_H (G : Ctr) (hG : GOk Tryd.prog G) (a0 : Value) {h : H} {K : Value → H → Prop} {KP : List PanicEntry → H → Prop} (Hw : wpS G plNameOf_S (retQ plNameOf_E (callK K KP)) (envOf 0 [a0] env0) h) : HCX Tryd.prog 64 [a0] h K KP :=
  .inl ⟨by kernel_rfl, hc_of mixed hG Tryd.func64 plNameOf_C plNameOf_R (of_decide_eq_true (by kernel_rfl)) Hw⟩
def plVarOf_M : Nat → Bool := fun i => Nat.testBit 174773 i
def plVarOf_S : S :=
  (.seq (.sts [(.set 2 (.c (str [])))]) (.seq (.seq (.sts [(.eff [] (some 4) (.call 45) [(.t 0), (.c (.int .i64 8))] [])]) (.block 0 (.seq (.sts [(.chk [] (.c2 (.bin .eql) (.t 4) (.c (.int .i64 0)))),
    (.set 5 (.o2 (.bin .eql) (.t 4) (.c (.int .i64 0))))]) (.cond 5 (.seq (.sts [(.set 2 (.c (str [88])))]) .ret) (.seq (.sts [(.chk [] (.c2 (.bin .eql) (.t 4) (.c (.int .i64 1)))),
    (.set 7 (.o2 (.bin .eql) (.t 4) (.c (.int .i64 1))))]) (.cond 7 (.seq (.sts [(.set 2 (.c (str [95])))]) .ret) (.seq (.sts [(.chk [] (.c2 (.bin .eql) (.t 4) (.c (.int .i64 2)))),
    (.set 9 (.o2 (.bin .eql) (.t 4) (.c (.int .i64 2))))]) (.cond 9 (.seq (.sts [(.set 2 (.c (str [95, 120])))]) .ret) (.seq (.sts [(.chk [] (.c2 (.bin .eql) (.t 4) (.c (.int .i64 3)))),
    (.set 11 (.o2 (.bin .eql) (.t 4) (.c (.int .i64 3))))]) (.cond 11 (.seq (.sts [(.set 2 (.c (str [78, 111, 116])))]) .ret) (.seq (.sts [(.chk [] (.c2 (.bin .eql) (.t 4) (.c (.int .i64 4)))),
    (.set 13 (.o2 (.bin .eql) (.t 4) (.c (.int .i64 4))))]) (.cond 13 (.seq (.sts [(.set 2 (.c (str [95, 95])))]) .ret) (.seq (.sts [(.chk [] (.c2 (.bin .eql) (.t 4) (.c (.int .i64 5)))),
    (.set 15 (.o2 (.bin .eql) (.t 4) (.c (.int .i64 5))))]) (.cond 15 (.seq (.sts [(.set 2 (.c (str [65, 97, 95, 57])))]) .ret) (.seq (.sts [(.chk [] (.c2 (.bin .eql) (.t 4) (.c (.int .i64 6)))),
    (.set 17 (.o2 (.bin .eql) (.t 4) (.c (.int .i64 6))))]) (.cond 17 (.seq (.sts [(.eff [] (some 19) (.call 93) [(.c (str [86]))] []),
    (.set 2 (.t 19))]) .ret) .skip)))))))))))))))) (.seq (.sts [(.eff [] (some 21) (.call 45) [(.t 0), (.c (.int .i64 1000))] []),
    (.eff [] (some 22) (.call 94) [(.t 21)] []),
    (.chk [] (.c2 (.bin .add) (.c (str [89])) (.t 22))),
    (.set 2 (.o2 (.bin .add) (.c (str [89])) (.t 22)))]) .ret)))
def plVarOf_E : Res := [(none, (.t 2))]
theorem plVarOf_C : Tryd.f97.body.bind (comp Tryd.prog plVarOf_M Tryd.f97.ntmps) = some plVarOf_S := by kernel_rfl
theorem plVarOf_R : resE Tryd.prog plVarOf_M Tryd.f97.results.toList = some plVarOf_E := by kernel_rfl
theorem plVarOf_H (G : Ctr) (hG : GOk Tryd.prog G) (a0 : Value) {h : H} {K : Value → H → Prop} {KP : List PanicEntry → H → Prop} (Hw : wpS G plVarOf_S (retQ plVarOf_E (callK K KP)) (envOf 0 [a0] env0) h) : HCX Tryd.prog 97 [a0] h K KP :=
  .inl ⟨by kernel_rfl, hc_of mixed hG Tryd.func97 plVarOf_C plVarOf_R (of_decide_eq_true (by kernel_rfl)) Hw⟩
def plTextOf_M : Nat → Bool := fun i => Nat.testBit 699101 i
def plTextOf_S : S :=
  (.seq (.sts [(.set 2 (.c (str []))),
    (.set 3 (.c (str [])))]) (.seq (.seq (.sts [(.eff [] (some 6) (.call 45) [(.t 0), (.c (.int .i64 8))] [])]) (.block 0 (.seq (.sts [(.chk [] (.c2 (.bin .eql) (.t 6) (.c (.int .i64 0)))),
    (.set 7 (.o2 (.bin .eql) (.t 6) (.c (.int .i64 0))))]) (.cond 7 (.seq (.sts [(.set 2 (.c (str [34, 34]))),
    (.set 3 (.c (str [])))]) .ret) (.seq (.sts [(.chk [] (.c2 (.bin .eql) (.t 6) (.c (.int .i64 1)))),
    (.set 9 (.o2 (.bin .eql) (.t 6) (.c (.int .i64 1))))]) (.cond 9 (.seq (.sts [(.set 2 (.c (str [34, 97, 34]))),
    (.set 3 (.c (str [97])))]) .ret) (.seq (.sts [(.chk [] (.c2 (.bin .eql) (.t 6) (.c (.int .i64 2)))),
    (.set 11 (.o2 (.bin .eql) (.t 6) (.c (.int .i64 2))))]) (.cond 11 (.seq (.sts [(.set 2 (.c (str [34, 92, 120, 52, 49, 92, 110, 92, 116, 34]))),
    (.set 3 (.c (str [65, 10, 9])))]) .ret) (.seq (.sts [(.chk [] (.c2 (.bin .eql) (.t 6) (.c (.int .i64 3)))),
    (.set 13 (.o2 (.bin .eql) (.t 6) (.c (.int .i64 3))))]) (.cond 13 (.seq (.sts [(.set 2 (.c (str [34, 92, 34, 92, 92, 34]))),
    (.set 3 (.c (str [34, 92])))]) .ret) (.seq (.sts [(.chk [] (.c2 (.bin .eql) (.t 6) (.c (.int .i64 4)))),
    (.set 15 (.o2 (.bin .eql) (.t 6) (.c (.int .i64 4))))]) (.cond 15 (.seq (.sts [(.set 2 (.c (str [34, 112, 40, 88, 41, 46, 32, 37, 32, 47, 42, 32, 34]))),
    (.set 3 (.c (str [112, 40, 88, 41, 46, 32, 37, 32, 47, 42, 32])))]) .ret) (.seq (.sts [(.chk [] (.c2 (.bin .eql) (.t 6) (.c (.int .i64 5)))),
    (.set 17 (.o2 (.bin .eql) (.t 6) (.c (.int .i64 5))))]) (.cond 17 (.seq (.sts [(.set 2 (.c (str [34, 195, 169, 127, 34]))),
    (.set 3 (.c (str [195, 169, 127])))]) .ret) (.seq (.sts [(.chk [] (.c2 (.bin .eql) (.t 6) (.c (.int .i64 6)))),
    (.set 19 (.o2 (.bin .eql) (.t 6) (.c (.int .i64 6))))]) (.cond 19 (.seq (.sts [(.set 2 (.c (str [34, 110, 111, 116, 34]))),
    (.set 3 (.c (str [110, 111, 116])))]) .ret) .skip)))))))))))))))) (.seq (.sts [(.eff [] (some 22) (.call 45) [(.t 0), (.c (.int .i64 1000))] []),
    (.eff [] (some 23) (.call 94) [(.t 22)] []),
    (.chk [] (.c2 (.bin .add) (.c (str [116])) (.t 23))),
    (.set 4 (.o2 (.bin .add) (.c (str [116])) (.t 23)))]) (.seq (.sts [(.chk [] (.c2 (.bin .add) (.c (str [34])) (.t 4))),
    (.chk [] (.c2 (.bin .add) (.o2 (.bin .add) (.c (str [34])) (.t 4)) (.c (str [34])))),
    (.set 2 (.o2 (.bin .add) (.o2 (.bin .add) (.c (str [34])) (.t 4)) (.c (str [34])))),
    (.set 3 (.t 4))]) .ret))))
def plTextOf_E : Res := [(none, (.t 2)), (none, (.t 3))]
theorem plTextOf_C : Tryd.f96.body.bind (comp Tryd.prog plTextOf_M Tryd.f96.ntmps) = some plTextOf_S := by kernel_rfl
theorem plTextOf_R : resE Tryd.prog plTextOf_M Tryd.f96.results.toList = some plTextOf_E := by kernel_rfl
theorem plTextOf_H (G : Ctr) (hG : GOk Tryd.prog G) (a0 : Value) {h : H} {K : Value → H → Prop} {KP : List PanicEntry → H → Prop} (Hw : wpS G plTextOf_S (retQ plTextOf_E (callK K KP)) (envOf 0 [a0] env0) h) : HCX Tryd.prog 96 [a0] h K KP :=
  .inl ⟨by kernel_rfl, hc_of mixed hG Tryd.func96 plTextOf_C plTextOf_R (of_decide_eq_true (by kernel_rfl)) Hw⟩
def plIntOf_M : Nat → Bool := fun i => Nat.testBit 8389125 i
def plIntOf_S : S :=
  (.seq (.sts [(.set 2 (.c (str [])))]) (.seq (.seq (.sts [(.chk [] (.c2 (.bin .geq) (.t 0) (.c (.int .i64 0)))),
    (.chk [((.o2 (.bin .geq) (.t 0) (.c (.int .i64 0))), true)] (.c2 (.bin .rem) (.t 0) (.c (.int .i64 5)))),
    (.chk [((.o2 (.bin .geq) (.t 0) (.c (.int .i64 0))), true)] (.c2 (.bin .eql) (.o2 (.bin .rem) (.t 0) (.c (.int .i64 5))) (.c (.int .i64 0)))),
    (.chk [] (.c3 .pick (.o2 (.bin .geq) (.t 0) (.c (.int .i64 0))) (.o2 (.bin .eql) (.o2 (.bin .rem) (.t 0) (.c (.int .i64 5))) (.c (.int .i64 0))) (.c (.bool false)))),
    (.set 9 (.o3 .pick (.o2 (.bin .geq) (.t 0) (.c (.int .i64 0))) (.o2 (.bin .eql) (.o2 (.bin .rem) (.t 0) (.c (.int .i64 5))) (.c (.int .i64 0))) (.c (.bool false))))]) (.cond 9 (.seq (.sts [(.eff [] (some 11) (.call 94) [(.t 0)] []),
    (.chk [] (.c2 (.bin .add) (.c (str [48, 48])) (.t 11))),
    (.set 2 (.o2 (.bin .add) (.c (str [48, 48])) (.t 11)))]) .ret) .skip)) (.seq (.seq (.sts [(.chk [] (.c2 (.bin .lss) (.t 0) (.c (.int .i64 0)))),
    (.chk [((.o2 (.bin .lss) (.t 0) (.c (.int .i64 0))), true)] (.c2 (.bin .rem) (.t 0) (.c (.int .i64 5)))),
    (.chk [((.o2 (.bin .lss) (.t 0) (.c (.int .i64 0))), true)] (.c2 (.bin .eql) (.o2 (.bin .rem) (.t 0) (.c (.int .i64 5))) (.c (.int .i64 0)))),
    (.chk [] (.c3 .pick (.o2 (.bin .lss) (.t 0) (.c (.int .i64 0))) (.o2 (.bin .eql) (.o2 (.bin .rem) (.t 0) (.c (.int .i64 5))) (.c (.int .i64 0))) (.c (.bool false)))),
    (.chk [((.o3 .pick (.o2 (.bin .lss) (.t 0) (.c (.int .i64 0))) (.o2 (.bin .eql) (.o2 (.bin .rem) (.t 0) (.c (.int .i64 5))) (.c (.int .i64 0))) (.c (.bool false))), true)] (.c2 (.bin .gtr) (.t 0) (.c (.int .i64 (-4611686018427387904))))),
    (.chk [] (.c3 .pick (.o3 .pick (.o2 (.bin .lss) (.t 0) (.c (.int .i64 0))) (.o2 (.bin .eql) (.o2 (.bin .rem) (.t 0) (.c (.int .i64 5))) (.c (.int .i64 0))) (.c (.bool false))) (.o2 (.bin .gtr) (.t 0) (.c (.int .i64 (-4611686018427387904)))) (.c (.bool false)))),
    (.set 23 (.o3 .pick (.o3 .pick (.o2 (.bin .lss) (.t 0) (.c (.int .i64 0))) (.o2 (.bin .eql) (.o2 (.bin .rem) (.t 0) (.c (.int .i64 5))) (.c (.int .i64 0))) (.c (.bool false))) (.o2 (.bin .gtr) (.t 0) (.c (.int .i64 (-4611686018427387904)))) (.c (.bool false))))]) (.cond 23 (.seq (.sts [(.chk [] (.c1 .neg (.t 0))),
    (.eff [] (some 26) (.call 94) [(.o1 .neg (.t 0))] []),
    (.chk [] (.c2 (.bin .add) (.c (str [45, 48])) (.t 26))),
    (.set 2 (.o2 (.bin .add) (.c (str [45, 48])) (.t 26)))]) .ret) .skip)) (.seq (.sts [(.eff [] (some 29) (.call 94) [(.t 0)] []),
    (.set 2 (.t 29))]) .ret))))
def plIntOf_E : Res := [(none, (.t 2))]
theorem plIntOf_C : Tryd.f95.body.bind (comp Tryd.prog plIntOf_M Tryd.f95.ntmps) = some plIntOf_S := by kernel_rfl
theorem plIntOf_R : resE Tryd.prog plIntOf_M Tryd.f95.results.toList = some plIntOf_E := by kernel_rfl
theorem plIntOf_H (G : Ctr) (hG : GOk Tryd.prog G) (a0 : Value) {h : H} {K : Value → H → Prop} {KP : List PanicEntry → H → Prop} (Hw : wpS G plIntOf_S (retQ plIntOf_E (callK K KP)) (envOf 0 [a0] env0) h) : HCX Tryd.prog 95 [a0] h K KP :=
  .inl ⟨by kernel_rfl, hc_of mixed hG Tryd.func95 plIntOf_C plIntOf_R (of_decide_eq_true (by kernel_rfl)) Hw⟩
def plMTerm_M : Nat → Bool := fun i => Nat.testBit 137472534523 i
def plMTerm_S : S :=
  (.seq (.sts [(.eff [] (some 3) (.box 125) [(.t 1)] []),
    (.eff [] (some 4) (.alloc 87 #[(.int .i64 0), (.int .i64 0), (str []), (.int .i64 0)]) [] [])]) (.seq (.seq (.sts [(.chk [] (.c1 (.fld 0) (.t 3))),
    (.chk [] (.c1 .ld1 (.o1 (.fld 0) (.t 3)))),
    (.set 12 (.o1 .ld1 (.o1 (.fld 0) (.t 3)))),
    (.eff [] (some 13) (.call 45) [(.t 12), (.c (.int .i64 4))] [])]) (.block 0 (.seq (.sts [(.chk [] (.c2 (.bin .eql) (.t 13) (.c (.int .i64 0)))),
    (.set 14 (.o2 (.bin .eql) (.t 13) (.c (.int .i64 0))))]) (.cond 14 (.seq (.sts [(.chk [] (.c1 (.fld 1) (.t 3))),
    (.chk [] (.c1 .ld1 (.o1 (.fld 1) (.t 3)))),
    (.set 18 (.o1 .ld1 (.o1 (.fld 1) (.t 3)))),
    (.eff [] (some 19) (.call 95) [(.t 18)] []),
    (.eff [] (some 20) (.call 26) [(.t 0), (.t 19)] []),
    (.set 5 (.t 20))]) (.seq (.sts [(.chk [] (.c1 (.fld 1) (.t 3))),
    (.chk [] (.c1 .ld1 (.o1 (.fld 1) (.t 3)))),
    (.chk [] (.cb 4 [(0, (1, (.c (.int .i64 1)))), (1, (1, (.o1 .ld1 (.o1 (.fld 1) (.t 3))))), (3, (1, (.t 5)))])),
    (.set 24 (.o2 (.put 3 1) (.o2 (.put 1 1) (.o2 (.put 0 1) (.c (.agg #[(.int .i64 0), (.int .i64 0), (str []), (.int .i64 0)])) (.c (.int .i64 1))) (.o1 .ld1 (.o1 (.fld 1) (.t 3)))) (.t 5))),
    (.eff [] none (.store 4) [(.t 4), (.t 24)] [])]) .ret)) (.seq (.sts [(.chk [] (.c2 (.bin .eql) (.t 13) (.c (.int .i64 1)))),
    (.set 25 (.o2 (.bin .eql) (.t 13) (.c (.int .i64 1))))]) (.cond 25 (.seq (.sts [(.chk [] (.c1 (.fld 1) (.t 3))),
    (.chk [] (.c1 .ld1 (.o1 (.fld 1) (.t 3)))),
    (.set 29 (.o1 .ld1 (.o1 (.fld 1) (.t 3)))),
    (.eff [] (some 30) (.call 64) [(.t 29)] []),
    (.eff [] (some 31) (.call 26) [(.t 0), (.t 30)] []),
    (.set 6 (.t 31))]) (.seq (.sts [(.chk [] (.c1 (.fld 1) (.t 3))),
    (.chk [] (.c1 .ld1 (.o1 (.fld 1) (.t 3)))),
    (.set 33 (.o1 .ld1 (.o1 (.fld 1) (.t 3)))),
    (.eff [] (some 34) (.call 64) [(.t 33)] []),
    (.chk [] (.cb 4 [(0, (1, (.c (.int .i64 2)))), (2, (1, (.t 34))), (3, (1, (.t 6)))])),
    (.eff [] none (.store 4) [(.t 4), (.o2 (.put 3 1) (.o2 (.put 2 1) (.o2 (.put 0 1) (.c (.agg #[(.int .i64 0), (.int .i64 0), (str []), (.int .i64 0)])) (.c (.int .i64 2))) (.t 34)) (.t 6))] [])]) .ret)) (.seq (.sts [(.chk [] (.c2 (.bin .eql) (.t 13) (.c (.int .i64 2)))),
    (.set 37 (.o2 (.bin .eql) (.t 13) (.c (.int .i64 2))))]) (.cond 37 (.seq (.sts [(.chk [] (.c1 (.fld 1) (.t 3))),
    (.chk [] (.c1 .ld1 (.o1 (.fld 1) (.t 3)))),
    (.set 41 (.o1 .ld1 (.o1 (.fld 1) (.t 3)))),
    (.eff [] (some 42) (.call 96) [(.t 41)] []),
    (.chk [] (.c1 (.ext 0) (.t 42))),
    (.chk [] (.c1 (.ext 1) (.t 42))),
    (.set 7 (.o1 (.ext 0) (.t 42))),
    (.set 8 (.o1 (.ext 1) (.t 42)))]) (.seq (.sts [(.eff [] (some 47) (.call 26) [(.t 0), (.t 7)] []),
    (.set 9 (.t 47))]) (.seq (.sts [(.chk [] (.cb 4 [(0, (1, (.c (.int .i64 3)))), (2, (1, (.t 8))), (3, (1, (.t 9)))])),
    (.eff [] none (.store 4) [(.t 4), (.o2 (.put 3 1) (.o2 (.put 2 1) (.o2 (.put 0 1) (.c (.agg #[(.int .i64 0), (.int .i64 0), (str []), (.int .i64 0)])) (.c (.int .i64 3))) (.t 8)) (.t 9))] [])]) .ret))) .skip)))))))) (.seq (.sts [(.chk [] (.c1 (.fld 1) (.t 3))),
    (.chk [] (.c1 .ld1 (.o1 (.fld 1) (.t 3)))),
    (.set 53 (.o1 .ld1 (.o1 (.fld 1) (.t 3)))),
    (.eff [] (some 54) (.call 97) [(.t 53)] []),
    (.eff [] (some 55) (.call 26) [(.t 0), (.t 54)] []),
    (.set 10 (.t 55))]) (.seq (.sts [(.chk [] (.c1 (.fld 1) (.t 3))),
    (.chk [] (.c1 .ld1 (.o1 (.fld 1) (.t 3)))),
    (.set 57 (.o1 .ld1 (.o1 (.fld 1) (.t 3)))),
    (.eff [] (some 58) (.call 97) [(.t 57)] []),
    (.chk [] (.cb 4 [(0, (1, (.c (.int .i64 4)))), (2, (1, (.t 58))), (3, (1, (.t 10)))])),
    (.eff [] none (.store 4) [(.t 4), (.o2 (.put 3 1) (.o2 (.put 2 1) (.o2 (.put 0 1) (.c (.agg #[(.int .i64 0), (.int .i64 0), (str []), (.int .i64 0)])) (.c (.int .i64 4))) (.t 58)) (.t 10))] [])]) .ret))))
def plMTerm_E : Res := [((some (.c1 (.ldn 4) (.t 4))), (.o1 (.ldn 4) (.t 4)))]
theorem plMTerm_C : Tryd.f65.body.bind (comp Tryd.prog plMTerm_M Tryd.f65.ntmps) = some plMTerm_S := by kernel_rfl
theorem plMTerm_R : resE Tryd.prog plMTerm_M Tryd.f65.results.toList = some plMTerm_E := by kernel_rfl
theorem plMTerm_H (G : Ctr) (hG : GOk Tryd.prog G) (a0 : Value) (a1 : Value) {h : H} {K : Value → H → Prop} {KP : List PanicEntry → H → Prop} (Hw : wpS G plMTerm_S (retQ plMTerm_E (callK K KP)) (envOf 0 [a0, a1] env0) h) : HCX Tryd.prog 65 [a0, a1] h K KP :=
  .inl ⟨by kernel_rfl, hc_of mixed hG Tryd.func65 plMTerm_C plMTerm_R (of_decide_eq_true (by kernel_rfl)) Hw⟩
def plMAtom_M : Nat → Bool := fun i => Nat.testBit 144117389380813783 i
def plMAtom_L1 : S :=
  (.seq (.seq (.sts [(.chk [] (.c1 (.fld 1) (.t 4))),
    (.chk [] (.c1 .ld1 (.o1 (.fld 1) (.t 4)))),
    (.chk [] (.c1 .len (.o1 .ld1 (.o1 (.fld 1) (.t 4))))),
    (.chk [] (.c2 (.bin .lss) (.t 8) (.o1 .len (.o1 .ld1 (.o1 (.fld 1) (.t 4)))))),
    (.chk [((.o2 (.bin .lss) (.t 8) (.o1 .len (.o1 .ld1 (.o1 (.fld 1) (.t 4))))), true)] (.c2 (.bin .lss) (.t 8) (.c (.int .i64 8)))),
    (.chk [] (.c3 .pick (.o2 (.bin .lss) (.t 8) (.o1 .len (.o1 .ld1 (.o1 (.fld 1) (.t 4))))) (.o2 (.bin .lss) (.t 8) (.c (.int .i64 8))) (.c (.bool false)))),
    (.set 27 (.o3 .pick (.o2 (.bin .lss) (.t 8) (.o1 .len (.o1 .ld1 (.o1 (.fld 1) (.t 4))))) (.o2 (.bin .lss) (.t 8) (.c (.int .i64 8))) (.c (.bool false))))]) (.cond 27 .skip (.exit 0))) (.seq (.block 1 (.seq (.seq (.sts [(.chk [] (.c2 (.bin .eql) (.t 8) (.c (.int .i64 0)))),
    (.set 31 (.o2 (.bin .eql) (.t 8) (.c (.int .i64 0))))]) (.cond 31 (.sts [(.eff [] (some 33) (.call 26) [(.t 0), (.c (str [40]))] [])]) (.sts [(.eff [] (some 35) (.call 26) [(.t 0), (.c (str [44]))] [])]))) (.seq (.sts [(.chk [] (.c1 (.fld 1) (.t 4))),
    (.chk [] (.c1 .ld1 (.o1 (.fld 1) (.t 4)))),
    (.chk [] (.c2 (.idxA 2) (.o1 .ld1 (.o1 (.fld 1) (.t 4))) (.t 8))),
    (.chk [] (.c1 (.ldn 2) (.o2 (.idxA 2) (.o1 .ld1 (.o1 (.fld 1) (.t 4))) (.t 8)))),
    (.set 40 (.o1 (.ldn 2) (.o2 (.idxA 2) (.o1 .ld1 (.o1 (.fld 1) (.t 4))) (.t 8)))),
    (.eff [] (some 9) (.alloc 125 #[(.int .i64 0), (.int .i64 0)]) [] []),
    (.eff [] none (.store 2) [(.t 9), (.t 40)] [])]) (.seq (.seq (.sts [(.set 41 (.t 2))]) (.cond 41 (.sts [(.chk [] (.c1 (.fld 0) (.t 9))),
    (.chk [] (.c1 .ld1 (.o1 (.fld 0) (.t 9)))),
    (.set 43 (.o1 .ld1 (.o1 (.fld 0) (.t 9)))),
    (.eff [] (some 44) (.call 45) [(.t 43), (.c (.int .i64 3))] []),
    (.chk [] (.c1 (.fld 0) (.t 9))),
    (.eff [] none (.store 1) [(.o1 (.fld 0) (.t 9)), (.t 44)] [])]) .skip)) (.sts [(.chk [] (.c1 (.fld 1) (.t 7))),
    (.chk [] (.c1 .ld1 (.o1 (.fld 1) (.t 7)))),
    (.chk [] (.c1 (.ldn 2) (.t 9))),
    (.set 49 (.o1 (.ldn 2) (.t 9))),
    (.set 47 (.o1 .ld1 (.o1 (.fld 1) (.t 7)))),
    (.eff [] (some 50) (.call 65) [(.t 0), (.t 49)] [([], ((.o1 (.fld 1) (.t 7)), none))]),
    (.eff [] (some 51) (.bsl 87 4 1 [(.int .i64 0), (.int .i64 0), (str []), (.int .i64 0)] [0]) [(.t 50)] [([], ((.o1 (.fld 1) (.t 7)), none))]),
    (.eff [] (some 52) (.app 87 4 40 [(.int .i64 0), (.int .i64 0), (str []), (.int .i64 0)]) [(.t 47), (.t 51)] []),
    (.chk [] (.c1 (.fld 1) (.t 7))),
    (.eff [] none (.store 1) [(.o1 (.fld 1) (.t 7)), (.t 52)] [])]))))) (.sts [(.chk [] (.c2 (.bin .add) (.t 8) (.c (.int .i64 1)))),
    (.set 29 (.o2 (.bin .add) (.t 8) (.c (.int .i64 1)))),
    (.set 8 (.t 29))])))
def plMAtom_S : S :=
  (.seq (.sts [(.eff [] (some 4) (.box 46) [(.t 1)] []),
    (.eff [] (some 6) (.alloc 52 #[(str []), (.slice none 0 0), (.int .i64 0)]) [] [])]) (.seq (.sts [(.chk [] (.c1 (.fld 0) (.t 4))),
    (.chk [] (.c1 .ld1 (.o1 (.fld 0) (.t 4)))),
    (.set 11 (.o1 .ld1 (.o1 (.fld 0) (.t 4)))),
    (.eff [] (some 12) (.call 64) [(.t 11)] []),
    (.chk [] (.cb 3 [(0, (1, (.t 12)))])),
    (.eff [] (some 7) (.alloc 52 #[(str []), (.slice none 0 0), (.int .i64 0)]) [] []),
    (.eff [] none (.store 3) [(.t 7), (.o2 (.put 0 1) (.c (.agg #[(str []), (.slice none 0 0), (.int .i64 0)])) (.t 12))] [])]) (.seq (.sts [(.chk [] (.c1 (.fld 0) (.t 7))),
    (.chk [] (.c1 .ld1 (.o1 (.fld 0) (.t 7)))),
    (.set 16 (.o1 .ld1 (.o1 (.fld 0) (.t 7)))),
    (.eff [] (some 17) (.call 26) [(.t 0), (.t 16)] []),
    (.chk [] (.c1 (.fld 2) (.t 7))),
    (.eff [] none (.store 1) [(.o1 (.fld 2) (.t 7)), (.t 17)] [])]) (.seq (.seq (.sts [(.set 8 (.c (.int .i64 0)))]) (.block 0 (.loop plMAtom_L1))) (.seq (.seq (.sts [(.chk [] (.c1 (.fld 1) (.t 7))),
    (.chk [] (.c1 .ld1 (.o1 (.fld 1) (.t 7)))),
    (.chk [] (.c1 .len (.o1 .ld1 (.o1 (.fld 1) (.t 7))))),
    (.chk [] (.c2 (.bin .gtr) (.o1 .len (.o1 .ld1 (.o1 (.fld 1) (.t 7)))) (.c (.int .i64 0)))),
    (.set 57 (.o2 (.bin .gtr) (.o1 .len (.o1 .ld1 (.o1 (.fld 1) (.t 7)))) (.c (.int .i64 0))))]) (.cond 57 (.sts [(.eff [] (some 59) (.call 26) [(.t 0), (.c (str [41]))] [])]) .skip)) (.seq (.sts [(.chk [] (.c1 (.ldn 3) (.t 7))),
    (.set 60 (.o1 (.ldn 3) (.t 7))),
    (.eff [] none (.store 3) [(.t 6), (.t 60)] [])]) .ret))))))
def plMAtom_E : Res := [((some (.c1 (.ldn 3) (.t 6))), (.o1 (.ldn 3) (.t 6)))]
theorem plMAtom_C : Tryd.f25.body.bind (comp Tryd.prog plMAtom_M Tryd.f25.ntmps) = some plMAtom_S := by kernel_rfl
theorem plMAtom_R : resE Tryd.prog plMAtom_M Tryd.f25.results.toList = some plMAtom_E := by kernel_rfl
theorem plMAtom_H (G : Ctr) (hG : GOk Tryd.prog G) (a0 : Value) (a1 : Value) (a2 : Value) {h : H} {K : Value → H → Prop} {KP : List PanicEntry → H → Prop} (Hw : wpS G plMAtom_S (retQ plMAtom_E (callK K KP)) (envOf 0 [a0, a1, a2] env0) h) : HCX Tryd.prog 25 [a0, a1, a2] h K KP :=
  .inl ⟨by kernel_rfl, hc_of mixed hG Tryd.func25 plMAtom_C plMAtom_R (of_decide_eq_true (by kernel_rfl)) Hw⟩
def plOpOf_M : Nat → Bool := fun i => Nat.testBit 10933 i
def plOpOf_S : S :=
  (.seq (.sts [(.set 2 (.c (str [])))]) (.seq (.seq (.sts [(.eff [] (some 4) (.call 45) [(.t 0), (.c (.int .i64 6))] [])]) (.block 0 (.seq (.sts [(.chk [] (.c2 (.bin .eql) (.t 4) (.c (.int .i64 0)))),
    (.set 5 (.o2 (.bin .eql) (.t 4) (.c (.int .i64 0))))]) (.cond 5 (.seq (.sts [(.set 2 (.c (str [61])))]) .ret) (.seq (.sts [(.chk [] (.c2 (.bin .eql) (.t 4) (.c (.int .i64 1)))),
    (.set 7 (.o2 (.bin .eql) (.t 4) (.c (.int .i64 1))))]) (.cond 7 (.seq (.sts [(.set 2 (.c (str [33, 61])))]) .ret) (.seq (.sts [(.chk [] (.c2 (.bin .eql) (.t 4) (.c (.int .i64 2)))),
    (.set 9 (.o2 (.bin .eql) (.t 4) (.c (.int .i64 2))))]) (.cond 9 (.seq (.sts [(.set 2 (.c (str [60])))]) .ret) (.seq (.sts [(.chk [] (.c2 (.bin .eql) (.t 4) (.c (.int .i64 3)))),
    (.set 11 (.o2 (.bin .eql) (.t 4) (.c (.int .i64 3))))]) (.cond 11 (.seq (.sts [(.set 2 (.c (str [60, 61])))]) .ret) (.seq (.sts [(.chk [] (.c2 (.bin .eql) (.t 4) (.c (.int .i64 4)))),
    (.set 13 (.o2 (.bin .eql) (.t 4) (.c (.int .i64 4))))]) (.cond 13 (.seq (.sts [(.set 2 (.c (str [62])))]) .ret) .skip)))))))))))) (.seq (.sts [(.set 2 (.c (str [62, 61])))]) .ret)))
def plOpOf_E : Res := [(none, (.t 2))]
theorem plOpOf_C : Tryd.f98.body.bind (comp Tryd.prog plOpOf_M Tryd.f98.ntmps) = some plOpOf_S := by kernel_rfl
theorem plOpOf_R : resE Tryd.prog plOpOf_M Tryd.f98.results.toList = some plOpOf_E := by kernel_rfl
theorem plOpOf_H (G : Ctr) (hG : GOk Tryd.prog G) (a0 : Value) {h : H} {K : Value → H → Prop} {KP : List PanicEntry → H → Prop} (Hw : wpS G plOpOf_S (retQ plOpOf_E (callK K KP)) (envOf 0 [a0] env0) h) : HCX Tryd.prog 98 [a0] h K KP :=
  .inl ⟨by kernel_rfl, hc_of mixed hG Tryd.func98 plOpOf_C plOpOf_R (of_decide_eq_true (by kernel_rfl)) Hw⟩
def plMLit_M : Nat → Bool := fun i => Nat.testBit 8401915 i
def plMLit_S : S :=
  (.seq (.sts [(.eff [] (some 3) (.box 132) [(.t 1)] []),
    (.eff [] (some 4) (.alloc 129 #[(.int .i64 0), (str []), (.slice none 0 0), (.int .i64 0), (.int .i64 0), (.int .i64 0), (.int .i64 0), (str []), (.int .i64 0), (.int .i64 0), (.int .i64 0), (str []), (.int .i64 0), (.int .i64 0)]) [] [])]) (.seq (.seq (.sts [(.chk [] (.c1 (.fld 0) (.t 3))),
    (.chk [] (.c1 .ld1 (.o1 (.fld 0) (.t 3)))),
    (.set 11 (.o1 .ld1 (.o1 (.fld 0) (.t 3)))),
    (.eff [] (some 12) (.call 45) [(.t 11), (.c (.int .i64 3))] [])]) (.block 0 (.seq (.sts [(.chk [] (.c2 (.bin .eql) (.t 12) (.c (.int .i64 0)))),
    (.set 13 (.o2 (.bin .eql) (.t 12) (.c (.int .i64 0))))]) (.cond 13 (.seq (.sts [(.chk [] (.c1 (.fld 1) (.t 3))),
    (.chk [] (.c1 (.ldn 2) (.o1 (.fld 1) (.t 3)))),
    (.set 17 (.o1 (.ldn 2) (.o1 (.fld 1) (.t 3)))),
    (.eff [] (some 18) (.call 25) [(.t 0), (.t 17), (.c (.bool false))] []),
    (.eff [] (some 5) (.alloc 52 #[(str []), (.slice none 0 0), (.int .i64 0)]) [] []),
    (.eff [] none (.store 3) [(.t 5), (.t 18)] [])]) (.seq (.sts [(.chk [] (.c1 (.ldn 3) (.t 5))),
    (.chk [] (.c1 (.fld 2) (.t 5))),
    (.chk [] (.c1 .ld1 (.o1 (.fld 2) (.t 5)))),
    (.chk [] (.cb 14 [(0, (1, (.c (.int .i64 1)))), (1, (3, (.o1 (.ldn 3) (.t 5)))), (13, (1, (.o1 .ld1 (.o1 (.fld 2) (.t 5)))))])),
    (.set 22 (.o2 (.put 13 1) (.o2 (.put 1 3) (.o2 (.put 0 1) (.c (.agg #[(.int .i64 0), (str []), (.slice none 0 0), (.int .i64 0), (.int .i64 0), (.int .i64 0), (.int .i64 0), (str []), (.int .i64 0), (.int .i64 0), (.int .i64 0), (str []), (.int .i64 0), (.int .i64 0)])) (.c (.int .i64 1))) (.o1 (.ldn 3) (.t 5))) (.o1 .ld1 (.o1 (.fld 2) (.t 5))))),
    (.eff [] none (.store 14) [(.t 4), (.t 22)] [])]) .ret)) (.seq (.sts [(.chk [] (.c2 (.bin .eql) (.t 12) (.c (.int .i64 1)))),
    (.set 23 (.o2 (.bin .eql) (.t 12) (.c (.int .i64 1))))]) (.cond 23 (.seq (.sts [(.eff [] (some 26) (.call 26) [(.t 0), (.c (str [110, 111, 116]))] []),
    (.set 6 (.t 26))]) (.seq (.sts [(.chk [] (.c1 .nilck (.t 0))),
    (.chk [] (.c1 (.fld 0) (.t 0))),
    (.chk [] (.c1 .ld1 (.o1 (.fld 0) (.t 0)))),
    (.chk [] (.c2 (.bin .add) (.o1 .ld1 (.o1 (.fld 0) (.t 0))) (.c (str [32])))),
    (.chk [] (.c1 .nilck (.t 0))),
    (.chk [] (.c1 (.fld 0) (.t 0))),
    (.set 31 (.o2 (.bin .add) (.o1 .ld1 (.o1 (.fld 0) (.t 0))) (.c (str [32])))),
    (.eff [] none (.store 1) [(.o1 (.fld 0) (.t 0)), (.t 31)] [])]) (.seq (.sts [(.chk [] (.c1 (.fld 1) (.t 3))),
    (.chk [] (.c1 (.ldn 2) (.o1 (.fld 1) (.t 3)))),
    (.set 36 (.o1 (.ldn 2) (.o1 (.fld 1) (.t 3)))),
    (.eff [] (some 37) (.call 25) [(.t 0), (.t 36), (.c (.bool false))] []),
    (.eff [] (some 7) (.alloc 52 #[(str []), (.slice none 0 0), (.int .i64 0)]) [] []),
    (.eff [] none (.store 3) [(.t 7), (.t 37)] [])]) (.seq (.sts [(.chk [] (.c1 (.ldn 3) (.t 7))),
    (.chk [] (.cb 14 [(0, (1, (.c (.int .i64 2)))), (1, (3, (.o1 (.ldn 3) (.t 7)))), (13, (1, (.t 6)))])),
    (.set 40 (.o2 (.put 13 1) (.o2 (.put 1 3) (.o2 (.put 0 1) (.c (.agg #[(.int .i64 0), (str []), (.slice none 0 0), (.int .i64 0), (.int .i64 0), (.int .i64 0), (.int .i64 0), (str []), (.int .i64 0), (.int .i64 0), (.int .i64 0), (str []), (.int .i64 0), (.int .i64 0)])) (.c (.int .i64 2))) (.o1 (.ldn 3) (.t 7))) (.t 6))),
    (.eff [] none (.store 14) [(.t 4), (.t 40)] [])]) .ret)))) .skip)))))) (.seq (.sts [(.chk [] (.c1 (.fld 4) (.t 3))),
    (.chk [] (.c1 (.ldn 2) (.o1 (.fld 4) (.t 3)))),
    (.set 43 (.o1 (.ldn 2) (.o1 (.fld 4) (.t 3)))),
    (.eff [] (some 44) (.call 65) [(.t 0), (.t 43)] []),
    (.eff [] (some 8) (.alloc 87 #[(.int .i64 0), (.int .i64 0), (str []), (.int .i64 0)]) [] []),
    (.eff [] none (.store 4) [(.t 8), (.t 44)] [])]) (.seq (.sts [(.chk [] (.c1 (.fld 3) (.t 3))),
    (.chk [] (.c1 .ld1 (.o1 (.fld 3) (.t 3)))),
    (.set 47 (.o1 .ld1 (.o1 (.fld 3) (.t 3)))),
    (.eff [] (some 48) (.call 98) [(.t 47)] []),
    (.eff [] (some 49) (.call 26) [(.t 0), (.t 48)] [])]) (.seq (.sts [(.chk [] (.c1 (.fld 6) (.t 3))),
    (.chk [] (.c1 (.ldn 2) (.o1 (.fld 6) (.t 3)))),
    (.set 52 (.o1 (.ldn 2) (.o1 (.fld 6) (.t 3)))),
    (.eff [] (some 53) (.call 65) [(.t 0), (.t 52)] []),
    (.eff [] (some 9) (.alloc 87 #[(.int .i64 0), (.int .i64 0), (str []), (.int .i64 0)]) [] []),
    (.eff [] none (.store 4) [(.t 9), (.t 53)] [])]) (.seq (.sts [(.chk [] (.c1 (.fld 3) (.t 3))),
    (.chk [] (.c1 .ld1 (.o1 (.fld 3) (.t 3)))),
    (.chk [] (.c1 (.ldn 4) (.t 8))),
    (.chk [] (.c1 (.ldn 4) (.t 9))),
    (.chk [] (.c1 (.fld 3) (.t 8))),
    (.chk [] (.c1 .ld1 (.o1 (.fld 3) (.t 8)))),
    (.set 61 (.o1 .ld1 (.o1 (.fld 3) (.t 8)))),
    (.set 59 (.o1 (.ldn 4) (.t 9))),
    (.set 58 (.o1 (.ldn 4) (.t 8))),
    (.set 55 (.o1 .ld1 (.o1 (.fld 3) (.t 3)))),
    (.eff [] (some 56) (.call 45) [(.t 55), (.c (.int .i64 6))] [([], ((.o1 (.fld 3) (.t 8)), none)), ([], ((.t 9), (some 4))), ([], ((.t 8), (some 4)))]),
    (.chk [] (.c2 (.bin .add) (.c (.int .i64 1)) (.t 56))),
    (.chk [] (.cb 14 [(0, (1, (.c (.int .i64 3)))), (4, (1, (.o2 (.bin .add) (.c (.int .i64 1)) (.t 56)))), (5, (4, (.t 58))), (9, (4, (.t 59))), (13, (1, (.t 61)))])),
    (.eff [] none (.store 14) [(.t 4), (.o2 (.put 13 1) (.o2 (.put 9 4) (.o2 (.put 5 4) (.o2 (.put 4 1) (.o2 (.put 0 1) (.c (.agg #[(.int .i64 0), (str []), (.slice none 0 0), (.int .i64 0), (.int .i64 0), (.int .i64 0), (.int .i64 0), (str []), (.int .i64 0), (.int .i64 0), (.int .i64 0), (str []), (.int .i64 0), (.int .i64 0)])) (.c (.int .i64 3))) (.o2 (.bin .add) (.c (.int .i64 1)) (.t 56))) (.t 58)) (.t 59)) (.t 61))] [])]) .ret))))))
def plMLit_E : Res := [((some (.c1 (.ldn 14) (.t 4))), (.o1 (.ldn 14) (.t 4)))]
theorem plMLit_C : Tryd.f67.body.bind (comp Tryd.prog plMLit_M Tryd.f67.ntmps) = some plMLit_S := by kernel_rfl
theorem plMLit_R : resE Tryd.prog plMLit_M Tryd.f67.results.toList = some plMLit_E := by kernel_rfl
theorem plMLit_H (G : Ctr) (hG : GOk Tryd.prog G) (a0 : Value) (a1 : Value) {h : H} {K : Value → H → Prop} {KP : List PanicEntry → H → Prop} (Hw : wpS G plMLit_S (retQ plMLit_E (callK K KP)) (envOf 0 [a0, a1] env0) h) : HCX Tryd.prog 67 [a0, a1] h K KP :=
  .inl ⟨by kernel_rfl, hc_of mixed hG Tryd.func67 plMLit_C plMLit_R (of_decide_eq_true (by kernel_rfl)) Hw⟩
def plMBody_M : Nat → Bool := fun i => Nat.testBit 278643 i
def plMBody_L1 : S :=
  (.seq (.seq (.sts [(.chk [] (.c1 .len (.t 1))),
    (.chk [] (.c2 (.bin .lss) (.t 6) (.o1 .len (.t 1)))),
    (.chk [((.o2 (.bin .lss) (.t 6) (.o1 .len (.t 1))), true)] (.c2 (.bin .lss) (.t 6) (.c (.int .i64 16)))),
    (.chk [] (.c3 .pick (.o2 (.bin .lss) (.t 6) (.o1 .len (.t 1))) (.o2 (.bin .lss) (.t 6) (.c (.int .i64 16))) (.c (.bool false)))),
    (.set 14 (.o3 .pick (.o2 (.bin .lss) (.t 6) (.o1 .len (.t 1))) (.o2 (.bin .lss) (.t 6) (.c (.int .i64 16))) (.c (.bool false))))]) (.cond 14 .skip (.exit 0))) (.seq (.block 1 (.seq (.seq (.sts [(.chk [] (.c2 (.bin .gtr) (.t 6) (.c (.int .i64 0)))),
    (.set 18 (.o2 (.bin .gtr) (.t 6) (.c (.int .i64 0))))]) (.cond 18 (.sts [(.eff [] (some 20) (.call 26) [(.t 0), (.c (str [44]))] [])]) .skip)) (.sts [(.chk [] (.c2 (.idxA 8) (.t 1) (.t 6))),
    (.chk [] (.c1 (.ldn 8) (.o2 (.idxA 8) (.t 1) (.t 6)))),
    (.set 26 (.o1 (.ldn 8) (.o2 (.idxA 8) (.t 1) (.t 6)))),
    (.eff [] (some 27) (.call 67) [(.t 0), (.t 26)] []),
    (.eff [] (some 28) (.bsl 129 14 1 [(.int .i64 0), (str []), (.slice none 0 0), (.int .i64 0), (.int .i64 0), (.int .i64 0), (.int .i64 0), (str []), (.int .i64 0), (.int .i64 0), (.int .i64 0), (str []), (.int .i64 0), (.int .i64 0)] [0]) [(.t 27)] []),
    (.eff [] (some 29) (.app 129 14 152 [(.int .i64 0), (str []), (.slice none 0 0), (.int .i64 0), (.int .i64 0), (.int .i64 0), (.int .i64 0), (str []), (.int .i64 0), (.int .i64 0), (.int .i64 0), (str []), (.int .i64 0), (.int .i64 0)]) [(.t 5), (.t 28)] []),
    (.set 5 (.t 29))]))) (.sts [(.chk [] (.c2 (.bin .add) (.t 6) (.c (.int .i64 1)))),
    (.set 16 (.o2 (.bin .add) (.t 6) (.c (.int .i64 1)))),
    (.set 6 (.t 16))])))
def plMBody_S : S :=
  (.seq (.sts [(.set 4 (.c (.slice none 0 0)))]) (.seq (.sts [(.set 5 (.c (.slice none 0 0)))]) (.seq (.seq (.sts [(.set 6 (.c (.int .i64 0)))]) (.block 0 (.loop plMBody_L1))) (.seq (.sts [(.set 4 (.t 5))]) .ret))))
def plMBody_E : Res := [(none, (.t 4))]
theorem plMBody_C : Tryd.f27.body.bind (comp Tryd.prog plMBody_M Tryd.f27.ntmps) = some plMBody_S := by kernel_rfl
theorem plMBody_R : resE Tryd.prog plMBody_M Tryd.f27.results.toList = some plMBody_E := by kernel_rfl
theorem plMBody_H (G : Ctr) (hG : GOk Tryd.prog G) (a0 : Value) (a1 : Value) {h : H} {K : Value → H → Prop} {KP : List PanicEntry → H → Prop} (Hw : wpS G plMBody_S (retQ plMBody_E (callK K KP)) (envOf 0 [a0, a1] env0) h) : HCX Tryd.prog 27 [a0, a1] h K KP :=
  .inl ⟨by kernel_rfl, hc_of mixed hG Tryd.func27 plMBody_C plMBody_R (of_decide_eq_true (by kernel_rfl)) Hw⟩
end Go.Proofs.YtmnfhmbmifompaaDoor
