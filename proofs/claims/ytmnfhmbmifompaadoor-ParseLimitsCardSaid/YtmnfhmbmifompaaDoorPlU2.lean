/- The small statements of functions of the program, as the closed computation gives them (written by a program of ours; checked by the kernel below). -/
import Derived.Test.YtmnfhmbmifompaaDoorEvB
import Derived.Test.YtmnfhmbmifompaaDoorProg
import Derived.KernelRfl
import Derived.Test.YtmnfhmbmifompaaDoorPlS
namespace Go.Proofs.YtmnfhmbmifompaaDoor
open Go Go.Ev
def plLimit_M : Nat → Bool := fun i => Nat.testBit 141288454258631 i
def plLimit_S : S :=
  (.seq (.sts [(.set 6 (.c (str []))),
    (.set 7 (.c (.int .i64 0))),
    (.set 8 (.c (.int .i64 0))),
    (.set 9 (.c (.int .i64 0)))]) (.seq (.sts [(.set 10 (.c (str [49])))]) (.seq (.seq (.sts [(.set 12 (.t 2))]) (.cond 12 (.sts [(.set 10 (.c (str [41])))]) .skip)) (.seq (.seq (.sts [(.set 13 (.t 0))]) (.block 0 (.seq (.seq (.sts [(.chk [] (.c2 (.bin .eql) (.t 13) (.c (.int .i64 0)))),
    (.set 14 (.o2 (.bin .eql) (.t 13) (.c (.int .i64 0))))]) (.cond 14 .skip (.sts [(.chk [] (.c2 (.bin .eql) (.t 13) (.c (.int .i64 1)))),
    (.set 14 (.o2 (.bin .eql) (.t 13) (.c (.int .i64 1))))]))) (.cond 14 (.seq (.sts [(.chk [] (.c2 (.bin .sub) (.t 1) (.c (.int .i64 1)))),
    (.eff [] (some 19) (.call 47) [(.c (str [112, 46])), (.o2 (.bin .sub) (.t 1) (.c (.int .i64 1)))] []),
    (.chk [] (.c2 (.bin .add) (.t 19) (.c (str [112, 46])))),
    (.set 11 (.o2 (.bin .add) (.t 19) (.c (str [112, 46]))))]) (.seq (.seq (.sts [(.set 21 (.t 2))]) (.cond 21 (.sts [(.chk [] (.c2 (.bin .sub) (.t 1) (.c (.int .i64 1)))),
    (.eff [] (some 24) (.call 47) [(.c (str [112, 46])), (.o2 (.bin .sub) (.t 1) (.c (.int .i64 1)))] []),
    (.chk [] (.c2 (.bin .add) (.t 24) (.c (str [41, 46])))),
    (.set 11 (.o2 (.bin .add) (.t 24) (.c (str [41, 46]))))]) .skip)) (.seq (.seq (.sts [(.chk [] (.c2 (.bin .eql) (.t 0) (.c (.int .i64 0)))),
    (.set 27 (.o2 (.bin .eql) (.t 0) (.c (.int .i64 0))))]) (.cond 27 (.seq (.sts [(.set 6 (.t 11)),
    (.set 7 (.c (.int .i64 512))),
    (.set 8 (.c (.int .i64 0))),
    (.set 9 (.c (.int .i64 24)))]) .ret) .skip)) (.seq (.sts [(.set 6 (.t 11)),
    (.set 7 (.c (.int .i64 4096))),
    (.set 8 (.c (.int .i64 0))),
    (.set 9 (.c (.int .i64 24)))]) .ret)))) (.seq (.sts [(.chk [] (.c2 (.bin .eql) (.t 13) (.c (.int .i64 2)))),
    (.set 30 (.o2 (.bin .eql) (.t 13) (.c (.int .i64 2))))]) (.cond 30 (.seq (.sts [(.chk [] (.c2 (.bin .sub) (.t 1) (.c (.int .i64 1)))),
    (.eff [] (some 34) (.call 47) [(.c (str [49, 61, 49, 44])), (.o2 (.bin .sub) (.t 1) (.c (.int .i64 1)))] []),
    (.chk [] (.c2 (.bin .add) (.c (str [104, 58, 45])) (.t 34))),
    (.chk [] (.c2 (.bin .add) (.o2 (.bin .add) (.c (str [104, 58, 45])) (.t 34)) (.t 10))),
    (.chk [] (.c2 (.bin .add) (.o2 (.bin .add) (.o2 (.bin .add) (.c (str [104, 58, 45])) (.t 34)) (.t 10)) (.c (str [61, 49, 46])))),
    (.set 6 (.o2 (.bin .add) (.o2 (.bin .add) (.o2 (.bin .add) (.c (str [104, 58, 45])) (.t 34)) (.t 10)) (.c (str [61, 49, 46])))),
    (.set 7 (.c (.int .i64 16))),
    (.set 8 (.c (.int .i64 3))),
    (.set 9 (.c (.int .i64 23)))]) .ret) (.seq (.sts [(.chk [] (.c2 (.bin .eql) (.t 13) (.c (.int .i64 3)))),
    (.set 39 (.o2 (.bin .eql) (.t 13) (.c (.int .i64 3))))]) (.cond 39 (.seq (.sts [(.chk [] (.c2 (.bin .sub) (.t 1) (.c (.int .i64 1)))),
    (.eff [] (some 43) (.call 47) [(.c (str [49, 61, 49, 44])), (.o2 (.bin .sub) (.t 1) (.c (.int .i64 1)))] []),
    (.chk [] (.c2 (.bin .add) (.t 43) (.t 10))),
    (.chk [] (.c2 (.bin .add) (.o2 (.bin .add) (.t 43) (.t 10)) (.c (str [61, 49, 46])))),
    (.set 6 (.o2 (.bin .add) (.o2 (.bin .add) (.t 43) (.t 10)) (.c (str [61, 49, 46])))),
    (.set 7 (.c (.int .i64 16))),
    (.set 8 (.c (.int .i64 0))),
    (.set 9 (.c (.int .i64 23)))]) .ret) (.seq (.sts [(.chk [] (.c2 (.bin .eql) (.t 13) (.c (.int .i64 4)))),
    (.set 47 (.o2 (.bin .eql) (.t 13) (.c (.int .i64 4))))]) (.cond 47 (.seq (.sts [(.chk [] (.c2 (.bin .sub) (.t 1) (.c (.int .i64 1)))),
    (.eff [] (some 51) (.call 47) [(.c (str [49, 44])), (.o2 (.bin .sub) (.t 1) (.c (.int .i64 1)))] []),
    (.chk [] (.c2 (.bin .add) (.c (str [112, 40])) (.t 51))),
    (.chk [] (.c2 (.bin .add) (.o2 (.bin .add) (.c (str [112, 40])) (.t 51)) (.t 10))),
    (.chk [] (.c2 (.bin .add) (.o2 (.bin .add) (.o2 (.bin .add) (.c (str [112, 40])) (.t 51)) (.t 10)) (.c (str [41, 46])))),
    (.set 6 (.o2 (.bin .add) (.o2 (.bin .add) (.o2 (.bin .add) (.c (str [112, 40])) (.t 51)) (.t 10)) (.c (str [41, 46])))),
    (.set 7 (.c (.int .i64 8))),
    (.set 8 (.c (.int .i64 2))),
    (.set 9 (.c (.int .i64 22)))]) .ret) .skip)))))))))) (.seq (.sts [(.chk [] (.c2 (.bin .sub) (.t 1) (.c (.int .i64 1)))),
    (.eff [] (some 58) (.call 47) [(.c (str [49, 44])), (.o2 (.bin .sub) (.t 1) (.c (.int .i64 1)))] []),
    (.chk [] (.c2 (.bin .add) (.c (str [112, 40])) (.t 58))),
    (.chk [] (.c2 (.bin .add) (.o2 (.bin .add) (.c (str [112, 40])) (.t 58)) (.t 10))),
    (.chk [] (.c2 (.bin .add) (.o2 (.bin .add) (.o2 (.bin .add) (.c (str [112, 40])) (.t 58)) (.t 10)) (.c (str [41])))),
    (.set 6 (.o2 (.bin .add) (.o2 (.bin .add) (.o2 (.bin .add) (.c (str [112, 40])) (.t 58)) (.t 10)) (.c (str [41])))),
    (.set 7 (.c (.int .i64 8))),
    (.set 8 (.c (.int .i64 2))),
    (.set 9 (.c (.int .i64 22)))]) .ret)))))
def plLimit_E : Res := [(none, (.t 6)), (none, (.t 7)), (none, (.t 8)), (none, (.t 9))]
theorem plLimit_C : Tryd.f46.body.bind (comp Tryd.prog plLimit_M Tryd.f46.ntmps) = some plLimit_S := by kernel_rfl
theorem plLimit_R : resE Tryd.prog plLimit_M Tryd.f46.results.toList = some plLimit_E := by kernel_rfl
theorem plLimit_H (G : Ctr) (hG : GOk Tryd.prog G) (a0 : Value) (a1 : Value) (a2 : Value) {h : H} {K : Value → H → Prop} {KP : List PanicEntry → H → Prop} (Hw : wpS G plLimit_S (retQ plLimit_E (callK K KP)) (envOf 0 [a0, a1, a2] env0) h) : HCX Tryd.prog 46 [a0, a1, a2] h K KP :=
  .inl ⟨by kernel_rfl, hc_of mixed hG Tryd.func46 plLimit_C plLimit_R (of_decide_eq_true (by kernel_rfl)) Hw⟩
def ParseLimits_M : Nat → Bool := fun i => Nat.testBit 151263301404436056932295 i
def ParseLimits_S : S :=
  (.seq (.sts [(.set 6 (.c (.bool false)))]) (.seq (.sts [(.eff [] (some 16) (.call 45) [(.t 0), (.c (.int .i64 6))] []),
    (.set 7 (.t 16))]) (.seq (.sts [(.set 8 (.c (.int .i64 2)))]) (.seq (.sts [(.set 9 (.c (.int .i64 0)))]) (.seq (.seq (.sts [(.set 17 (.t 7))]) (.block 0 (.seq (.sts [(.chk [] (.c2 (.bin .eql) (.t 17) (.c (.int .i64 0)))),
    (.set 24 (.o2 (.bin .eql) (.t 17) (.c (.int .i64 0))))]) (.cond 24 (.sts [(.eff [] (some 27) (.call 45) [(.t 1), (.c (.int .i64 600))] []),
    (.chk [] (.c2 (.bin .add) (.c (.int .i64 1)) (.t 27))),
    (.set 1 (.o2 (.bin .add) (.c (.int .i64 1)) (.t 27)))]) (.seq (.sts [(.chk [] (.c2 (.bin .eql) (.t 17) (.c (.int .i64 1)))),
    (.set 29 (.o2 (.bin .eql) (.t 17) (.c (.int .i64 1))))]) (.cond 29 (.seq (.sts [(.eff [] (some 32) (.call 45) [(.t 1), (.c (.int .i64 4200))] []),
    (.chk [] (.c2 (.bin .add) (.c (.int .i64 1)) (.t 32))),
    (.set 1 (.o2 (.bin .add) (.c (.int .i64 1)) (.t 32)))]) (.sts [(.set 9 (.c (.int .i64 1)))])) (.seq (.seq (.sts [(.chk [] (.c2 (.bin .eql) (.t 17) (.c (.int .i64 2)))),
    (.set 34 (.o2 (.bin .eql) (.t 17) (.c (.int .i64 2))))]) (.cond 34 .skip (.sts [(.chk [] (.c2 (.bin .eql) (.t 17) (.c (.int .i64 3)))),
    (.set 34 (.o2 (.bin .eql) (.t 17) (.c (.int .i64 3))))]))) (.cond 34 (.seq (.sts [(.eff [] (some 38) (.call 45) [(.t 1), (.c (.int .i64 40))] []),
    (.chk [] (.c2 (.bin .add) (.c (.int .i64 1)) (.t 38))),
    (.set 1 (.o2 (.bin .add) (.c (.int .i64 1)) (.t 38)))]) (.seq (.sts [(.set 8 (.c (.int .i64 4)))]) (.sts [(.chk [] (.c2 (.bin .sub) (.t 7) (.c (.int .i64 2)))),
    (.chk [] (.c2 (.bin .mul) (.c (.int .i64 2)) (.o2 (.bin .sub) (.t 7) (.c (.int .i64 2))))),
    (.set 9 (.o2 (.bin .mul) (.c (.int .i64 2)) (.o2 (.bin .sub) (.t 7) (.c (.int .i64 2)))))]))) (.seq (.sts [(.eff [] (some 19) (.call 45) [(.t 1), (.c (.int .i64 20))] []),
    (.chk [] (.c2 (.bin .add) (.c (.int .i64 1)) (.t 19))),
    (.set 1 (.o2 (.bin .add) (.c (.int .i64 1)) (.t 19)))]) (.sts [(.chk [] (.c2 (.bin .sub) (.t 7) (.c (.int .i64 4)))),
    (.chk [] (.c2 (.bin .mul) (.c (.int .i64 3)) (.o2 (.bin .sub) (.t 7) (.c (.int .i64 4))))),
    (.set 9 (.o2 (.bin .mul) (.c (.int .i64 3)) (.o2 (.bin .sub) (.t 7) (.c (.int .i64 4)))))])))))))))) (.seq (.sts [(.eff [] (some 47) (.call 46) [(.t 7), (.t 1), (.t 2)] []),
    (.chk [] (.c1 (.ext 0) (.t 47))),
    (.chk [] (.c1 (.ext 1) (.t 47))),
    (.chk [] (.c1 (.ext 2) (.t 47))),
    (.chk [] (.c1 (.ext 3) (.t 47))),
    (.set 10 (.o1 (.ext 0) (.t 47))),
    (.set 11 (.o1 (.ext 1) (.t 47))),
    (.set 12 (.o1 (.ext 2) (.t 47))),
    (.set 13 (.o1 (.ext 3) (.t 47)))]) (.seq (.sts [(.eff [] (some 54) (.call 43) [(.t 9), (.t 10)] []),
    (.eff [] (some 14) (.alloc 27 #[(.int .i64 0), (.int .i64 0), (.int .i64 0)]) [] []),
    (.eff [] none (.store 3) [(.t 14), (.t 54)] [])]) (.seq (.seq (.sts [(.chk [] (.c2 (.bin .gtr) (.t 1) (.t 11))),
    (.chk [((.o2 (.bin .gtr) (.t 1) (.t 11)), true)] (.c1 .not (.t 2))),
    (.chk [((.o1 .not (.t 2)), false), ((.o2 (.bin .gtr) (.t 1) (.t 11)), true)] (.c2 (.bin .add) (.t 11) (.c (.int .i64 1)))),
    (.chk [((.o1 .not (.t 2)), false), ((.o2 (.bin .gtr) (.t 1) (.t 11)), true)] (.c2 (.bin .gtr) (.t 1) (.o2 (.bin .add) (.t 11) (.c (.int .i64 1))))),
    (.chk [((.o2 (.bin .gtr) (.t 1) (.t 11)), true)] (.c3 .pick (.o1 .not (.t 2)) (.c (.bool true)) (.o2 (.bin .gtr) (.t 1) (.o2 (.bin .add) (.t 11) (.c (.int .i64 1)))))),
    (.chk [] (.c3 .pick (.o2 (.bin .gtr) (.t 1) (.t 11)) (.o3 .pick (.o1 .not (.t 2)) (.c (.bool true)) (.o2 (.bin .gtr) (.t 1) (.o2 (.bin .add) (.t 11) (.c (.int .i64 1))))) (.c (.bool false)))),
    (.set 67 (.o3 .pick (.o2 (.bin .gtr) (.t 1) (.t 11)) (.o3 .pick (.o1 .not (.t 2)) (.c (.bool true)) (.o2 (.bin .gtr) (.t 1) (.o2 (.bin .add) (.t 11) (.c (.int .i64 1))))) (.c (.bool false))))]) (.cond 67 (.seq (.sts [(.chk [] (.c1 (.ldn 3) (.t 14))),
    (.chk [] (.c2 (.bin .mul) (.t 8) (.t 11))),
    (.chk [] (.c2 (.bin .add) (.t 12) (.o2 (.bin .mul) (.t 8) (.t 11)))),
    (.chk [] (.cb 3 [(0, (1, (.t 13))), (2, (1, (.o2 (.bin .add) (.t 12) (.o2 (.bin .mul) (.t 8) (.t 11)))))])),
    (.chk [] (.c2 (.eqs false [(.int .i64), (.int .i64), (.int .i64)]) (.o1 (.ldn 3) (.t 14)) (.o2 (.put 2 1) (.o2 (.put 0 1) (.c (.agg #[(.int .i64 0), (.int .i64 0), (.int .i64 0)])) (.t 13)) (.o2 (.bin .add) (.t 12) (.o2 (.bin .mul) (.t 8) (.t 11)))))),
    (.set 6 (.o2 (.eqs false [(.int .i64), (.int .i64), (.int .i64)]) (.o1 (.ldn 3) (.t 14)) (.o2 (.put 2 1) (.o2 (.put 0 1) (.c (.agg #[(.int .i64 0), (.int .i64 0), (.int .i64 0)])) (.t 13)) (.o2 (.bin .add) (.t 12) (.o2 (.bin .mul) (.t 8) (.t 11))))))]) .ret) .skip)) (.seq (.seq (.sts [(.set 77 (.t 2))]) (.cond 77 (.seq (.sts [(.chk [] (.c1 (.ldn 3) (.t 14))),
    (.chk [] (.c2 (.bin .sub) (.t 1) (.c (.int .i64 1)))),
    (.chk [] (.c2 (.bin .mul) (.t 8) (.o2 (.bin .sub) (.t 1) (.c (.int .i64 1))))),
    (.chk [] (.c2 (.bin .add) (.t 12) (.o2 (.bin .mul) (.t 8) (.o2 (.bin .sub) (.t 1) (.c (.int .i64 1)))))),
    (.chk [] (.cb 3 [(0, (1, (.c (.int .i64 20)))), (2, (1, (.o2 (.bin .add) (.t 12) (.o2 (.bin .mul) (.t 8) (.o2 (.bin .sub) (.t 1) (.c (.int .i64 1)))))))])),
    (.chk [] (.c2 (.eqs false [(.int .i64), (.int .i64), (.int .i64)]) (.o1 (.ldn 3) (.t 14)) (.o2 (.put 2 1) (.o2 (.put 0 1) (.c (.agg #[(.int .i64 0), (.int .i64 0), (.int .i64 0)])) (.c (.int .i64 20))) (.o2 (.bin .add) (.t 12) (.o2 (.bin .mul) (.t 8) (.o2 (.bin .sub) (.t 1) (.c (.int .i64 1)))))))),
    (.set 6 (.o2 (.eqs false [(.int .i64), (.int .i64), (.int .i64)]) (.o1 (.ldn 3) (.t 14)) (.o2 (.put 2 1) (.o2 (.put 0 1) (.c (.agg #[(.int .i64 0), (.int .i64 0), (.int .i64 0)])) (.c (.int .i64 20))) (.o2 (.bin .add) (.t 12) (.o2 (.bin .mul) (.t 8) (.o2 (.bin .sub) (.t 1) (.c (.int .i64 1))))))))]) .ret) .skip)) (.seq (.sts [(.chk [] (.c1 (.ldn 3) (.t 14))),
    (.chk [] (.cb 3 [])),
    (.chk [] (.c2 (.eqs false [(.int .i64), (.int .i64), (.int .i64)]) (.o1 (.ldn 3) (.t 14)) (.c (.agg #[(.int .i64 0), (.int .i64 0), (.int .i64 0)])))),
    (.set 6 (.o2 (.eqs false [(.int .i64), (.int .i64), (.int .i64)]) (.o1 (.ldn 3) (.t 14)) (.c (.agg #[(.int .i64 0), (.int .i64 0), (.int .i64 0)]))))]) .ret))))))))))
def ParseLimits_E : Res := [(none, (.t 6))]
theorem ParseLimits_C : Tryd.f16.body.bind (comp Tryd.prog ParseLimits_M Tryd.f16.ntmps) = some ParseLimits_S := by kernel_rfl
theorem ParseLimits_R : resE Tryd.prog ParseLimits_M Tryd.f16.results.toList = some ParseLimits_E := by kernel_rfl
theorem ParseLimits_H (G : Ctr) (hG : GOk Tryd.prog G) (a0 : Value) (a1 : Value) (a2 : Value) {h : H} {K : Value → H → Prop} {KP : List PanicEntry → H → Prop} (Hw : wpS G ParseLimits_S (retQ ParseLimits_E (callK K KP)) (envOf 0 [a0, a1, a2] env0) h) : HCX Tryd.prog 16 [a0, a1, a2] h K KP :=
  .inl ⟨by kernel_rfl, hc_of mixed hG Tryd.func16 ParseLimits_C ParseLimits_R (of_decide_eq_true (by kernel_rfl)) Hw⟩
end Go.Proofs.YtmnfhmbmifompaaDoor
