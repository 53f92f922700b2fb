/- The small statements of functions of the program, as the closed computation gives them (written by a program of ours; checked by the kernel below). -/
import Derived.Test.YtmnfhmbmifompaaDoorEvB
import Derived.Test.YtmnfhmbmifompaaDoorProg
import Derived.KernelRfl
import Derived.Test.YtmnfhmbmifompaaDoorPlS
namespace Go.Proofs.YtmnfhmbmifompaaDoor
open Go Go.Ev
def ParseOneOfFacts_M : Nat → Bool := fun i => Nat.testBit 17179870461 i
def ParseOneOfFacts_S : S :=
  (.seq (.sts [(.set 2 (.c (.bool false)))]) (.seq (.seq (.sts [(.chk [] (.c1 .lens (.t 0))),
    (.chk [] (.c2 (.bin .gtr) (.o1 .lens (.t 0)) (.c (.int .i64 65000)))),
    (.set 10 (.o2 (.bin .gtr) (.o1 .lens (.t 0)) (.c (.int .i64 65000))))]) (.cond 10 (.seq (.sts [(.set 2 (.c (.bool true)))]) .ret) .skip)) (.seq (.sts [(.eff [] (some 13) (.call 19) [(.t 0)] []),
    (.chk [] (.c1 (.ext 0) (.t 13))),
    (.chk [] (.c1 (.ext 1) (.t 13))),
    (.eff [] (some 3) (.alloc 24 #[(str []), (.slice none 0 0)]) [] []),
    (.eff [] (some 4) (.alloc 27 #[(.int .i64 0), (.int .i64 0), (.int .i64 0)]) [] []),
    (.eff [] none (.store 2) [(.t 3), (.o1 (.ext 0) (.t 13))] []),
    (.eff [] none (.store 3) [(.t 4), (.o1 (.ext 1) (.t 13))] [])]) (.seq (.sts [(.chk [] (.c2 (.bin .add) (.t 0) (.c (str [10, 46])))),
    (.eff [] (some 19) (.call 22) [(.o2 (.bin .add) (.t 0) (.c (str [10, 46])))] []),
    (.chk [] (.c1 (.ext 0) (.t 19))),
    (.chk [] (.c1 (.ext 1) (.t 19))),
    (.eff [] (some 6) (.alloc 27 #[(.int .i64 0), (.int .i64 0), (.int .i64 0)]) [] []),
    (.set 5 (.o1 (.ext 0) (.t 19))),
    (.eff [] none (.store 3) [(.t 6), (.o1 (.ext 1) (.t 19))] [])]) (.seq (.sts [(.chk [] (.c1 (.ldn 3) (.t 6))),
    (.chk [] (.cb 3 [])),
    (.chk [] (.c2 (.eqs false [(.int .i64), (.int .i64), (.int .i64)]) (.o1 (.ldn 3) (.t 6)) (.c (.agg #[(.int .i64 0), (.int .i64 0), (.int .i64 0)])))),
    (.chk [((.o2 (.eqs false [(.int .i64), (.int .i64), (.int .i64)]) (.o1 (.ldn 3) (.t 6)) (.c (.agg #[(.int .i64 0), (.int .i64 0), (.int .i64 0)]))), true)] (.c1 .len (.t 5))),
    (.chk [((.o2 (.eqs false [(.int .i64), (.int .i64), (.int .i64)]) (.o1 (.ldn 3) (.t 6)) (.c (.agg #[(.int .i64 0), (.int .i64 0), (.int .i64 0)]))), true)] (.c2 (.bin .eql) (.o1 .len (.t 5)) (.c (.int .i64 1)))),
    (.chk [] (.c3 .pick (.o2 (.eqs false [(.int .i64), (.int .i64), (.int .i64)]) (.o1 (.ldn 3) (.t 6)) (.c (.agg #[(.int .i64 0), (.int .i64 0), (.int .i64 0)]))) (.o2 (.bin .eql) (.o1 .len (.t 5)) (.c (.int .i64 1))) (.c (.bool false)))),
    (.set 7 (.o3 .pick (.o2 (.eqs false [(.int .i64), (.int .i64), (.int .i64)]) (.o1 (.ldn 3) (.t 6)) (.c (.agg #[(.int .i64 0), (.int .i64 0), (.int .i64 0)]))) (.o2 (.bin .eql) (.o1 .len (.t 5)) (.c (.int .i64 1))) (.c (.bool false))))]) (.seq (.seq (.sts [(.chk [] (.c1 (.ldn 3) (.t 4))),
    (.chk [] (.cb 3 [])),
    (.chk [] (.c2 (.eqs false [(.int .i64), (.int .i64), (.int .i64)]) (.o1 (.ldn 3) (.t 4)) (.c (.agg #[(.int .i64 0), (.int .i64 0), (.int .i64 0)])))),
    (.chk [] (.c2 (.eqb true) (.o2 (.eqs false [(.int .i64), (.int .i64), (.int .i64)]) (.o1 (.ldn 3) (.t 4)) (.c (.agg #[(.int .i64 0), (.int .i64 0), (.int .i64 0)]))) (.t 7))),
    (.set 34 (.o2 (.eqb true) (.o2 (.eqs false [(.int .i64), (.int .i64), (.int .i64)]) (.o1 (.ldn 3) (.t 4)) (.c (.agg #[(.int .i64 0), (.int .i64 0), (.int .i64 0)]))) (.t 7)))]) (.cond 34 (.seq (.sts [(.set 2 (.c (.bool false)))]) .ret) .skip)) (.seq (.sts [(.chk [] (.c1 .not (.t 7))),
    (.chk [((.o1 .not (.t 7)), false)] (.c1 (.ldn 2) (.t 3))),
    (.chk [((.o1 .not (.t 7)), false)] (.c2 (.idxA 3) (.t 5) (.c (.int .i64 0)))),
    (.chk [((.o1 .not (.t 7)), false)] (.c1 (.ldn 3) (.o2 (.idxA 3) (.t 5) (.c (.int .i64 0))))),
    (.set 41 (.o1 (.ldn 3) (.o2 (.idxA 3) (.t 5) (.c (.int .i64 0))))),
    (.set 38 (.o1 (.ldn 2) (.t 3))),
    (.eff [((.o1 .not (.t 7)), false)] (some 42) (.call 42) [(.t 38), (.t 41)] []),
    (.chk [] (.c3 .pick (.o1 .not (.t 7)) (.c (.bool true)) (.t 42))),
    (.eff [((.o3 .pick (.o1 .not (.t 7)) (.c (.bool true)) (.t 42)), true)] (some 45) (.call 29) [] []),
    (.chk [] (.c3 .pick (.o3 .pick (.o1 .not (.t 7)) (.c (.bool true)) (.t 42)) (.t 45) (.c (.bool false)))),
    (.set 2 (.o3 .pick (.o3 .pick (.o1 .not (.t 7)) (.c (.bool true)) (.t 42)) (.t 45) (.c (.bool false))))]) .ret)))))))
def ParseOneOfFacts_E : Res := [(none, (.t 2))]
theorem ParseOneOfFacts_C : Tryd.f13.body.bind (comp Tryd.prog ParseOneOfFacts_M Tryd.f13.ntmps) = some ParseOneOfFacts_S := by kernel_rfl
theorem ParseOneOfFacts_R : resE Tryd.prog ParseOneOfFacts_M Tryd.f13.results.toList = some ParseOneOfFacts_E := by kernel_rfl
theorem ParseOneOfFacts_H (G : Ctr) (hG : GOk Tryd.prog G) (a0 : Value) {h : H} {K : Value → H → Prop} {KP : List PanicEntry → H → Prop} (Hw : wpS G ParseOneOfFacts_S (retQ ParseOneOfFacts_E (callK K KP)) (envOf 0 [a0] env0) h) : HCX Tryd.prog 13 [a0] h K KP :=
  .inl ⟨by kernel_rfl, hc_of mixed hG Tryd.func13 ParseOneOfFacts_C ParseOneOfFacts_R (of_decide_eq_true (by kernel_rfl)) Hw⟩
end Go.Proofs.YtmnfhmbmifompaaDoor
