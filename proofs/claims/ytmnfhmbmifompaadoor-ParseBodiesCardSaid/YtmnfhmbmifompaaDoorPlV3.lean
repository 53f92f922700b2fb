/- The small statements of functions of the program, as the closed computation gives them (written by a program of ours; checked by the kernel below). -/
import Derived.Test.YtmnfhmbmifompaaDoorEvB
import Derived.Test.YtmnfhmbmifompaaDoorProg
import Derived.KernelRfl
import Derived.Test.YtmnfhmbmifompaaDoorPlS
namespace Go.Proofs.YtmnfhmbmifompaaDoor
open Go Go.Ev
def ParseBodies_M : Nat → Bool := fun i => Nat.testBit 17592186045693 i
def ParseBodies_S : S :=
  (.seq (.sts [(.set 2 (.c (.bool false)))]) (.seq (.seq (.sts [(.chk [] (.c1 .lens (.t 0))),
    (.chk [] (.c2 (.bin .gtr) (.o1 .lens (.t 0)) (.c (.int .i64 65000)))),
    (.set 10 (.o2 (.bin .gtr) (.o1 .lens (.t 0)) (.c (.int .i64 65000))))]) (.cond 10 (.seq (.sts [(.set 2 (.c (.bool true)))]) .ret) .skip)) (.seq (.sts [(.eff [] (some 13) (.call 36) [(.t 0)] []),
    (.chk [] (.c1 (.ext 0) (.t 13))),
    (.chk [] (.c1 (.ext 1) (.t 13))),
    (.eff [] (some 4) (.alloc 27 #[(.int .i64 0), (.int .i64 0), (.int .i64 0)]) [] []),
    (.set 3 (.o1 (.ext 0) (.t 13))),
    (.eff [] none (.store 3) [(.t 4), (.o1 (.ext 1) (.t 13))] [])]) (.seq (.sts [(.chk [] (.c2 (.bin .add) (.c (str [104, 58, 45, 10])) (.t 0))),
    (.eff [] (some 19) (.call 28) [(.o2 (.bin .add) (.c (str [104, 58, 45, 10])) (.t 0))] []),
    (.chk [] (.c1 (.ext 0) (.t 19))),
    (.chk [] (.c1 (.ext 1) (.t 19))),
    (.eff [] (some 5) (.alloc 60 #[(.slice none 0 0)]) [] []),
    (.eff [] (some 6) (.alloc 27 #[(.int .i64 0), (.int .i64 0), (.int .i64 0)]) [] []),
    (.eff [] none (.store 1) [(.t 5), (.o1 (.ext 0) (.t 19))] []),
    (.eff [] none (.store 3) [(.t 6), (.o1 (.ext 1) (.t 19))] [])]) (.seq (.sts [(.chk [] (.c1 (.ldn 3) (.t 6))),
    (.chk [] (.cb 3 [])),
    (.chk [] (.c2 (.eqs false [(.int .i64), (.int .i64), (.int .i64)]) (.o1 (.ldn 3) (.t 6)) (.c (.agg #[(.int .i64 0), (.int .i64 0), (.int .i64 0)])))),
    (.chk [((.o2 (.eqs false [(.int .i64), (.int .i64), (.int .i64)]) (.o1 (.ldn 3) (.t 6)) (.c (.agg #[(.int .i64 0), (.int .i64 0), (.int .i64 0)]))), true)] (.c1 (.fld 0) (.t 5))),
    (.chk [((.o2 (.eqs false [(.int .i64), (.int .i64), (.int .i64)]) (.o1 (.ldn 3) (.t 6)) (.c (.agg #[(.int .i64 0), (.int .i64 0), (.int .i64 0)]))), true)] (.c1 .ld1 (.o1 (.fld 0) (.t 5)))),
    (.chk [((.o2 (.eqs false [(.int .i64), (.int .i64), (.int .i64)]) (.o1 (.ldn 3) (.t 6)) (.c (.agg #[(.int .i64 0), (.int .i64 0), (.int .i64 0)]))), true)] (.c1 .len (.o1 .ld1 (.o1 (.fld 0) (.t 5))))),
    (.chk [((.o2 (.eqs false [(.int .i64), (.int .i64), (.int .i64)]) (.o1 (.ldn 3) (.t 6)) (.c (.agg #[(.int .i64 0), (.int .i64 0), (.int .i64 0)]))), true)] (.c2 (.bin .eql) (.o1 .len (.o1 .ld1 (.o1 (.fld 0) (.t 5)))) (.c (.int .i64 1)))),
    (.chk [] (.c3 .pick (.o2 (.eqs false [(.int .i64), (.int .i64), (.int .i64)]) (.o1 (.ldn 3) (.t 6)) (.c (.agg #[(.int .i64 0), (.int .i64 0), (.int .i64 0)]))) (.o2 (.bin .eql) (.o1 .len (.o1 .ld1 (.o1 (.fld 0) (.t 5)))) (.c (.int .i64 1))) (.c (.bool false)))),
    (.chk [((.o3 .pick (.o2 (.eqs false [(.int .i64), (.int .i64), (.int .i64)]) (.o1 (.ldn 3) (.t 6)) (.c (.agg #[(.int .i64 0), (.int .i64 0), (.int .i64 0)]))) (.o2 (.bin .eql) (.o1 .len (.o1 .ld1 (.o1 (.fld 0) (.t 5)))) (.c (.int .i64 1))) (.c (.bool false))), true)] (.c1 (.fld 0) (.t 5))),
    (.chk [((.o3 .pick (.o2 (.eqs false [(.int .i64), (.int .i64), (.int .i64)]) (.o1 (.ldn 3) (.t 6)) (.c (.agg #[(.int .i64 0), (.int .i64 0), (.int .i64 0)]))) (.o2 (.bin .eql) (.o1 .len (.o1 .ld1 (.o1 (.fld 0) (.t 5)))) (.c (.int .i64 1))) (.c (.bool false))), true)] (.c1 .ld1 (.o1 (.fld 0) (.t 5)))),
    (.chk [((.o3 .pick (.o2 (.eqs false [(.int .i64), (.int .i64), (.int .i64)]) (.o1 (.ldn 3) (.t 6)) (.c (.agg #[(.int .i64 0), (.int .i64 0), (.int .i64 0)]))) (.o2 (.bin .eql) (.o1 .len (.o1 .ld1 (.o1 (.fld 0) (.t 5)))) (.c (.int .i64 1))) (.c (.bool false))), true)] (.c2 (.idxA 4) (.o1 .ld1 (.o1 (.fld 0) (.t 5))) (.c (.int .i64 0)))),
    (.chk [((.o3 .pick (.o2 (.eqs false [(.int .i64), (.int .i64), (.int .i64)]) (.o1 (.ldn 3) (.t 6)) (.c (.agg #[(.int .i64 0), (.int .i64 0), (.int .i64 0)]))) (.o2 (.bin .eql) (.o1 .len (.o1 .ld1 (.o1 (.fld 0) (.t 5)))) (.c (.int .i64 1))) (.c (.bool false))), true)] (.c1 (.fld 3) (.o2 (.idxA 4) (.o1 .ld1 (.o1 (.fld 0) (.t 5))) (.c (.int .i64 0))))),
    (.chk [((.o3 .pick (.o2 (.eqs false [(.int .i64), (.int .i64), (.int .i64)]) (.o1 (.ldn 3) (.t 6)) (.c (.agg #[(.int .i64 0), (.int .i64 0), (.int .i64 0)]))) (.o2 (.bin .eql) (.o1 .len (.o1 .ld1 (.o1 (.fld 0) (.t 5)))) (.c (.int .i64 1))) (.c (.bool false))), true)] (.c1 .ld1 (.o1 (.fld 3) (.o2 (.idxA 4) (.o1 .ld1 (.o1 (.fld 0) (.t 5))) (.c (.int .i64 0)))))),
    (.chk [((.o3 .pick (.o2 (.eqs false [(.int .i64), (.int .i64), (.int .i64)]) (.o1 (.ldn 3) (.t 6)) (.c (.agg #[(.int .i64 0), (.int .i64 0), (.int .i64 0)]))) (.o2 (.bin .eql) (.o1 .len (.o1 .ld1 (.o1 (.fld 0) (.t 5)))) (.c (.int .i64 1))) (.c (.bool false))), true)] (.c1 .len (.o1 .ld1 (.o1 (.fld 3) (.o2 (.idxA 4) (.o1 .ld1 (.o1 (.fld 0) (.t 5))) (.c (.int .i64 0))))))),
    (.chk [((.o3 .pick (.o2 (.eqs false [(.int .i64), (.int .i64), (.int .i64)]) (.o1 (.ldn 3) (.t 6)) (.c (.agg #[(.int .i64 0), (.int .i64 0), (.int .i64 0)]))) (.o2 (.bin .eql) (.o1 .len (.o1 .ld1 (.o1 (.fld 0) (.t 5)))) (.c (.int .i64 1))) (.c (.bool false))), true)] (.c2 (.bin .gtr) (.o1 .len (.o1 .ld1 (.o1 (.fld 3) (.o2 (.idxA 4) (.o1 .ld1 (.o1 (.fld 0) (.t 5))) (.c (.int .i64 0)))))) (.c (.int .i64 0)))),
    (.chk [] (.c3 .pick (.o3 .pick (.o2 (.eqs false [(.int .i64), (.int .i64), (.int .i64)]) (.o1 (.ldn 3) (.t 6)) (.c (.agg #[(.int .i64 0), (.int .i64 0), (.int .i64 0)]))) (.o2 (.bin .eql) (.o1 .len (.o1 .ld1 (.o1 (.fld 0) (.t 5)))) (.c (.int .i64 1))) (.c (.bool false))) (.o2 (.bin .gtr) (.o1 .len (.o1 .ld1 (.o1 (.fld 3) (.o2 (.idxA 4) (.o1 .ld1 (.o1 (.fld 0) (.t 5))) (.c (.int .i64 0)))))) (.c (.int .i64 0))) (.c (.bool false)))),
    (.set 7 (.o3 .pick (.o3 .pick (.o2 (.eqs false [(.int .i64), (.int .i64), (.int .i64)]) (.o1 (.ldn 3) (.t 6)) (.c (.agg #[(.int .i64 0), (.int .i64 0), (.int .i64 0)]))) (.o2 (.bin .eql) (.o1 .len (.o1 .ld1 (.o1 (.fld 0) (.t 5)))) (.c (.int .i64 1))) (.c (.bool false))) (.o2 (.bin .gtr) (.o1 .len (.o1 .ld1 (.o1 (.fld 3) (.o2 (.idxA 4) (.o1 .ld1 (.o1 (.fld 0) (.t 5))) (.c (.int .i64 0)))))) (.c (.int .i64 0))) (.c (.bool false))))]) (.seq (.seq (.sts [(.chk [] (.c1 (.ldn 3) (.t 4))),
    (.chk [] (.cb 3 [])),
    (.chk [] (.c2 (.eqs false [(.int .i64), (.int .i64), (.int .i64)]) (.o1 (.ldn 3) (.t 4)) (.c (.agg #[(.int .i64 0), (.int .i64 0), (.int .i64 0)])))),
    (.chk [] (.c2 (.eqb true) (.o2 (.eqs false [(.int .i64), (.int .i64), (.int .i64)]) (.o1 (.ldn 3) (.t 4)) (.c (.agg #[(.int .i64 0), (.int .i64 0), (.int .i64 0)]))) (.t 7))),
    (.set 44 (.o2 (.eqb true) (.o2 (.eqs false [(.int .i64), (.int .i64), (.int .i64)]) (.o1 (.ldn 3) (.t 4)) (.c (.agg #[(.int .i64 0), (.int .i64 0), (.int .i64 0)]))) (.t 7)))]) (.cond 44 (.seq (.sts [(.set 2 (.c (.bool false)))]) .ret) .skip)) (.seq (.sts [(.chk [] (.c1 .not (.t 7))),
    (.chk [((.o1 .not (.t 7)), false)] (.c1 (.fld 0) (.t 5))),
    (.chk [((.o1 .not (.t 7)), false)] (.c1 .ld1 (.o1 (.fld 0) (.t 5)))),
    (.chk [((.o1 .not (.t 7)), false)] (.c2 (.idxA 4) (.o1 .ld1 (.o1 (.fld 0) (.t 5))) (.c (.int .i64 0)))),
    (.chk [((.o1 .not (.t 7)), false)] (.c1 (.fld 3) (.o2 (.idxA 4) (.o1 .ld1 (.o1 (.fld 0) (.t 5))) (.c (.int .i64 0))))),
    (.chk [((.o1 .not (.t 7)), false)] (.c1 .ld1 (.o1 (.fld 3) (.o2 (.idxA 4) (.o1 .ld1 (.o1 (.fld 0) (.t 5))) (.c (.int .i64 0)))))),
    (.set 52 (.o1 .ld1 (.o1 (.fld 3) (.o2 (.idxA 4) (.o1 .ld1 (.o1 (.fld 0) (.t 5))) (.c (.int .i64 0)))))),
    (.set 51 (.o1 (.fld 3) (.o2 (.idxA 4) (.o1 .ld1 (.o1 (.fld 0) (.t 5))) (.c (.int .i64 0))))),
    (.eff [((.o1 .not (.t 7)), false)] (some 54) (.call 38) [(.t 3), (.c (.int .i64 4))] [([((.o1 .not (.t 7)), false)], ((.t 51), none)), ([((.o1 .not (.t 7)), false)], ((.o1 (.fld 0) (.t 5)), none))]),
    (.eff [((.o1 .not (.t 7)), false)] (some 55) (.call 37) [(.t 52), (.t 54)] []),
    (.chk [] (.c3 .pick (.o1 .not (.t 7)) (.c (.bool true)) (.t 55))),
    (.eff [((.o3 .pick (.o1 .not (.t 7)) (.c (.bool true)) (.t 55)), true)] (some 58) (.call 29) [] []),
    (.chk [] (.c3 .pick (.o3 .pick (.o1 .not (.t 7)) (.c (.bool true)) (.t 55)) (.t 58) (.c (.bool false)))),
    (.set 2 (.o3 .pick (.o3 .pick (.o1 .not (.t 7)) (.c (.bool true)) (.t 55)) (.t 58) (.c (.bool false))))]) .ret)))))))
def ParseBodies_E : Res := [(none, (.t 2))]
theorem ParseBodies_C : Tryd.f8.body.bind (comp Tryd.prog ParseBodies_M Tryd.f8.ntmps) = some ParseBodies_S := by kernel_rfl
theorem ParseBodies_R : resE Tryd.prog ParseBodies_M Tryd.f8.results.toList = some ParseBodies_E := by kernel_rfl
theorem ParseBodies_H (G : Ctr) (hG : GOk Tryd.prog G) (a0 : Value) {h : H} {K : Value → H → Prop} {KP : List PanicEntry → H → Prop} (Hw : wpS G ParseBodies_S (retQ ParseBodies_E (callK K KP)) (envOf 0 [a0] env0) h) : HCX Tryd.prog 8 [a0] h K KP :=
  .inl ⟨by kernel_rfl, hc_of mixed hG Tryd.func8 ParseBodies_C ParseBodies_R (of_decide_eq_true (by kernel_rfl)) Hw⟩
end Go.Proofs.YtmnfhmbmifompaaDoor
