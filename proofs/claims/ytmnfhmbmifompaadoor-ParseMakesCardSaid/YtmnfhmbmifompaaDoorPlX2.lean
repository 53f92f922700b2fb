/- The small statements of functions of the program, as the closed computation gives them (written by a program of ours; checked by the kernel below). -/
import Derived.Test.YtmnfhmbmifompaaDoorEvB
import Derived.Test.YtmnfhmbmifompaaDoorProg
import Derived.KernelRfl
import Derived.Test.YtmnfhmbmifompaaDoorPlS
namespace Go.Proofs.YtmnfhmbmifompaaDoor
open Go Go.Ev
def ParseMakes_M : Nat → Bool := fun i => Nat.testBit 147573952864558515199 i
def ParseMakes_L1 : S :=
  (.seq (.seq (.sts [(.chk [] (.c1 (.fld 0) (.t 1))),
    (.chk [] (.c1 .ld1 (.o1 (.fld 0) (.t 1)))),
    (.chk [] (.c1 .len (.o1 .ld1 (.o1 (.fld 0) (.t 1))))),
    (.chk [] (.c2 (.bin .lss) (.t 5) (.o1 .len (.o1 .ld1 (.o1 (.fld 0) (.t 1)))))),
    (.chk [((.o2 (.bin .lss) (.t 5) (.o1 .len (.o1 .ld1 (.o1 (.fld 0) (.t 1))))), true)] (.c2 (.bin .lss) (.t 5) (.c (.int .i64 40)))),
    (.chk [] (.c3 .pick (.o2 (.bin .lss) (.t 5) (.o1 .len (.o1 .ld1 (.o1 (.fld 0) (.t 1))))) (.o2 (.bin .lss) (.t 5) (.c (.int .i64 40))) (.c (.bool false)))),
    (.set 22 (.o3 .pick (.o2 (.bin .lss) (.t 5) (.o1 .len (.o1 .ld1 (.o1 (.fld 0) (.t 1))))) (.o2 (.bin .lss) (.t 5) (.c (.int .i64 40))) (.c (.bool false))))]) (.cond 22 .skip (.exit 0))) (.seq (.block 1 (.seq (.sts [(.chk [] (.c1 (.fld 0) (.t 1))),
    (.chk [] (.c1 .ld1 (.o1 (.fld 0) (.t 1)))),
    (.chk [] (.c2 (.idxA 3) (.o1 .ld1 (.o1 (.fld 0) (.t 1))) (.t 5))),
    (.chk [] (.c1 (.ldn 3) (.o2 (.idxA 3) (.o1 .ld1 (.o1 (.fld 0) (.t 1))) (.t 5)))),
    (.set 29 (.o1 (.ldn 3) (.o2 (.idxA 3) (.o1 .ld1 (.o1 (.fld 0) (.t 1))) (.t 5)))),
    (.eff [] (some 6) (.alloc 49 #[(.int .i64 0), (.slice none 0 0), (.slice none 0 0)]) [] []),
    (.eff [] none (.store 3) [(.t 6), (.t 29)] [])]) (.seq (.sts [(.chk [] (.c1 (.fld 0) (.t 6))),
    (.chk [] (.c1 (.ldn 2) (.o1 (.fld 0) (.t 6)))),
    (.set 32 (.o1 (.ldn 2) (.o1 (.fld 0) (.t 6)))),
    (.eff [] (some 33) (.call 25) [(.t 3), (.t 32), (.c (.bool false))] []),
    (.chk [] (.cb 4 [(0, (3, (.t 33)))])),
    (.eff [] (some 7) (.alloc 56 #[(str []), (.slice none 0 0), (.int .i64 0), (.slice none 0 0)]) [] []),
    (.eff [] none (.store 4) [(.t 7), (.o2 (.put 0 3) (.c (.agg #[(str []), (.slice none 0 0), (.int .i64 0), (.slice none 0 0)])) (.t 33))] [])]) (.seq (.seq (.sts [(.chk [] (.c1 (.fld 2) (.t 6))),
    (.chk [] (.c1 .ld1 (.o1 (.fld 2) (.t 6)))),
    (.chk [] (.c1 .len (.o1 .ld1 (.o1 (.fld 2) (.t 6))))),
    (.chk [] (.c2 (.bin .gtr) (.o1 .len (.o1 .ld1 (.o1 (.fld 2) (.t 6)))) (.c (.int .i64 0)))),
    (.set 38 (.o2 (.bin .gtr) (.o1 .len (.o1 .ld1 (.o1 (.fld 2) (.t 6)))) (.c (.int .i64 0))))]) (.cond 38 (.seq (.sts [(.eff [] (some 40) (.call 26) [(.t 3), (.c (str [58, 45]))] [])]) (.sts [(.chk [] (.c1 (.fld 2) (.t 6))),
    (.chk [] (.c1 .ld1 (.o1 (.fld 2) (.t 6)))),
    (.set 43 (.o1 .ld1 (.o1 (.fld 2) (.t 6)))),
    (.eff [] (some 44) (.call 27) [(.t 3), (.t 43)] []),
    (.chk [] (.c1 (.fld 3) (.t 7))),
    (.eff [] none (.store 1) [(.o1 (.fld 3) (.t 7)), (.t 44)] [])])) .skip)) (.seq (.sts [(.eff [] (some 47) (.call 26) [(.t 3), (.c (str [46]))] [])]) (.sts [(.chk [] (.c1 (.ldn 4) (.t 7))),
    (.set 49 (.o1 (.ldn 4) (.t 7))),
    (.eff [] (some 50) (.bsl 56 4 1 [(str []), (.slice none 0 0), (.int .i64 0), (.slice none 0 0)] [0]) [(.t 49)] []),
    (.eff [] (some 51) (.app 56 4 72 [(str []), (.slice none 0 0), (.int .i64 0), (.slice none 0 0)]) [(.t 4), (.t 50)] []),
    (.set 4 (.t 51))])))))) (.sts [(.chk [] (.c2 (.bin .add) (.t 5) (.c (.int .i64 1)))),
    (.set 24 (.o2 (.bin .add) (.t 5) (.c (.int .i64 1)))),
    (.set 5 (.t 24))])))
def ParseMakes_S : S :=
  (.seq (.sts [(.eff [] (some 1) (.box 39) [(.t 0)] []),
    (.set 2 (.c (.bool false)))]) (.seq (.sts [(.chk [] (.c1 (.fld 1) (.t 1))),
    (.chk [] (.c1 .ld1 (.o1 (.fld 1) (.t 1)))),
    (.chk [] (.cb 3 [(1, (1, (.o1 .ld1 (.o1 (.fld 1) (.t 1)))))])),
    (.set 12 (.o2 (.put 1 1) (.c (.agg #[(str []), (.slice none 0 0), (.int .i64 0)])) (.o1 .ld1 (.o1 (.fld 1) (.t 1))))),
    (.eff [] (some 13) (.box 42) [(.t 12)] []),
    (.set 3 (.t 13))]) (.seq (.sts [(.set 4 (.c (.slice none 0 0)))]) (.seq (.seq (.sts [(.set 5 (.c (.int .i64 0)))]) (.block 0 (.loop ParseMakes_L1))) (.seq (.sts [(.eff [] (some 53) (.call 26) [(.t 3), (.c (str []))] [])]) (.seq (.sts [(.chk [] (.c1 .nilck (.t 3))),
    (.chk [] (.c1 (.fld 0) (.t 3))),
    (.chk [] (.c1 .ld1 (.o1 (.fld 0) (.t 3)))),
    (.set 58 (.o1 .ld1 (.o1 (.fld 0) (.t 3)))),
    (.eff [] (some 59) (.call 28) [(.t 58)] []),
    (.chk [] (.c1 (.ext 0) (.t 59))),
    (.chk [] (.c1 (.ext 1) (.t 59))),
    (.eff [] (some 8) (.alloc 60 #[(.slice none 0 0)]) [] []),
    (.eff [] (some 9) (.alloc 27 #[(.int .i64 0), (.int .i64 0), (.int .i64 0)]) [] []),
    (.eff [] none (.store 1) [(.t 8), (.o1 (.ext 0) (.t 59))] []),
    (.eff [] none (.store 3) [(.t 9), (.o1 (.ext 1) (.t 59))] [])]) (.seq (.seq (.sts [(.chk [] (.c1 .nilck (.t 3))),
    (.chk [] (.c1 (.fld 0) (.t 3))),
    (.chk [] (.c1 .ld1 (.o1 (.fld 0) (.t 3)))),
    (.chk [] (.c1 .lens (.o1 .ld1 (.o1 (.fld 0) (.t 3))))),
    (.chk [] (.c2 (.bin .gtr) (.o1 .lens (.o1 .ld1 (.o1 (.fld 0) (.t 3)))) (.c (.int .i64 65536)))),
    (.set 67 (.o2 (.bin .gtr) (.o1 .lens (.o1 .ld1 (.o1 (.fld 0) (.t 3)))) (.c (.int .i64 65536))))]) (.cond 67 (.seq (.sts [(.chk [] (.c1 (.ldn 3) (.t 9))),
    (.chk [] (.cb 3 [(0, (1, (.c (.int .i64 1))))])),
    (.chk [] (.c2 (.eqs false [(.int .i64), (.int .i64), (.int .i64)]) (.o1 (.ldn 3) (.t 9)) (.o2 (.put 0 1) (.c (.agg #[(.int .i64 0), (.int .i64 0), (.int .i64 0)])) (.c (.int .i64 1))))),
    (.chk [((.o2 (.eqs false [(.int .i64), (.int .i64), (.int .i64)]) (.o1 (.ldn 3) (.t 9)) (.o2 (.put 0 1) (.c (.agg #[(.int .i64 0), (.int .i64 0), (.int .i64 0)])) (.c (.int .i64 1)))), true)] (.c1 (.fld 0) (.t 8))),
    (.chk [((.o2 (.eqs false [(.int .i64), (.int .i64), (.int .i64)]) (.o1 (.ldn 3) (.t 9)) (.o2 (.put 0 1) (.c (.agg #[(.int .i64 0), (.int .i64 0), (.int .i64 0)])) (.c (.int .i64 1)))), true)] (.c1 .ld1 (.o1 (.fld 0) (.t 8)))),
    (.chk [((.o2 (.eqs false [(.int .i64), (.int .i64), (.int .i64)]) (.o1 (.ldn 3) (.t 9)) (.o2 (.put 0 1) (.c (.agg #[(.int .i64 0), (.int .i64 0), (.int .i64 0)])) (.c (.int .i64 1)))), true)] (.c1 .len (.o1 .ld1 (.o1 (.fld 0) (.t 8))))),
    (.chk [((.o2 (.eqs false [(.int .i64), (.int .i64), (.int .i64)]) (.o1 (.ldn 3) (.t 9)) (.o2 (.put 0 1) (.c (.agg #[(.int .i64 0), (.int .i64 0), (.int .i64 0)])) (.c (.int .i64 1)))), true)] (.c2 (.bin .eql) (.o1 .len (.o1 .ld1 (.o1 (.fld 0) (.t 8)))) (.c (.int .i64 0)))),
    (.chk [] (.c3 .pick (.o2 (.eqs false [(.int .i64), (.int .i64), (.int .i64)]) (.o1 (.ldn 3) (.t 9)) (.o2 (.put 0 1) (.c (.agg #[(.int .i64 0), (.int .i64 0), (.int .i64 0)])) (.c (.int .i64 1)))) (.o2 (.bin .eql) (.o1 .len (.o1 .ld1 (.o1 (.fld 0) (.t 8)))) (.c (.int .i64 0))) (.c (.bool false)))),
    (.set 77 (.o3 .pick (.o2 (.eqs false [(.int .i64), (.int .i64), (.int .i64)]) (.o1 (.ldn 3) (.t 9)) (.o2 (.put 0 1) (.c (.agg #[(.int .i64 0), (.int .i64 0), (.int .i64 0)])) (.c (.int .i64 1)))) (.o2 (.bin .eql) (.o1 .len (.o1 .ld1 (.o1 (.fld 0) (.t 8)))) (.c (.int .i64 0))) (.c (.bool false)))),
    (.eff [((.t 77), true)] (some 78) (.call 29) [] []),
    (.chk [] (.c3 .pick (.t 77) (.t 78) (.c (.bool false)))),
    (.set 2 (.o3 .pick (.t 77) (.t 78) (.c (.bool false))))]) .ret) .skip)) (.seq (.sts [(.chk [] (.c1 (.ldn 3) (.t 9))),
    (.chk [] (.cb 3 [])),
    (.chk [] (.c2 (.eqs false [(.int .i64), (.int .i64), (.int .i64)]) (.o1 (.ldn 3) (.t 9)) (.c (.agg #[(.int .i64 0), (.int .i64 0), (.int .i64 0)])))),
    (.chk [((.o2 (.eqs false [(.int .i64), (.int .i64), (.int .i64)]) (.o1 (.ldn 3) (.t 9)) (.c (.agg #[(.int .i64 0), (.int .i64 0), (.int .i64 0)]))), true)] (.c1 (.fld 0) (.t 8))),
    (.chk [((.o2 (.eqs false [(.int .i64), (.int .i64), (.int .i64)]) (.o1 (.ldn 3) (.t 9)) (.c (.agg #[(.int .i64 0), (.int .i64 0), (.int .i64 0)]))), true)] (.c1 .ld1 (.o1 (.fld 0) (.t 8)))),
    (.set 85 (.o1 .ld1 (.o1 (.fld 0) (.t 8)))),
    (.set 83 (.o2 (.eqs false [(.int .i64), (.int .i64), (.int .i64)]) (.o1 (.ldn 3) (.t 9)) (.c (.agg #[(.int .i64 0), (.int .i64 0), (.int .i64 0)])))),
    (.eff [((.t 83), true)] (some 87) (.call 30) [(.t 85), (.t 4)] []),
    (.chk [] (.c3 .pick (.t 83) (.t 87) (.c (.bool false)))),
    (.eff [((.o3 .pick (.t 83) (.t 87) (.c (.bool false))), true)] (some 90) (.call 29) [] []),
    (.chk [] (.c3 .pick (.o3 .pick (.t 83) (.t 87) (.c (.bool false))) (.t 90) (.c (.bool false)))),
    (.set 2 (.o3 .pick (.o3 .pick (.t 83) (.t 87) (.c (.bool false))) (.t 90) (.c (.bool false))))]) .ret))))))))
def ParseMakes_E : Res := [(none, (.t 2))]
theorem ParseMakes_C : Tryd.f5.body.bind (comp Tryd.prog ParseMakes_M Tryd.f5.ntmps) = some ParseMakes_S := by kernel_rfl
theorem ParseMakes_R : resE Tryd.prog ParseMakes_M Tryd.f5.results.toList = some ParseMakes_E := by kernel_rfl
theorem ParseMakes_H (G : Ctr) (hG : GOk Tryd.prog G) (a0 : Value) {h : H} {K : Value → H → Prop} {KP : List PanicEntry → H → Prop} (Hw : wpS G ParseMakes_S (retQ ParseMakes_E (callK K KP)) (envOf 0 [a0] env0) h) : HCX Tryd.prog 5 [a0] h K KP :=
  .inl ⟨by kernel_rfl, hc_of mixed hG Tryd.func5 ParseMakes_C ParseMakes_R (of_decide_eq_true (by kernel_rfl)) Hw⟩
end Go.Proofs.YtmnfhmbmifompaaDoor
