/- The small statements of functions of the program, as the closed computation gives them (written by a program of ours; checked by the kernel below). -/
import Derived.Test.YtmnfhmbmifompaaDoorEvB
import Derived.Test.YtmnfhmbmifompaaDoorProg
import Derived.KernelRfl
import Derived.Test.YtmnfhmbmifompaaDoorPlS
namespace Go.Proofs.YtmnfhmbmifompaaDoor
open Go Go.Ev
def plGoesOn_M : Nat → Bool := fun i => Nat.testBit 9007199344221171 i
def plGoesOn_L1 : S :=
  (.seq (.sts [(.chk [] (.c2 (.bin .lss) (.t 8) (.c (.int .i64 9)))),
    (.set 9 (.o2 (.bin .lss) (.t 8) (.c (.int .i64 9))))]) (.seq (.cond 9 .skip (.exit 0)) (.seq (.block 1 (.seq (.sts [(.set 5 (.t 8))]) (.seq (.sts [(.set 6 (.c (str [])))]) (.seq (.seq (.sts [(.set 11 (.t 5))]) (.block 2 (.seq (.sts [(.chk [] (.c2 (.bin .eql) (.t 11) (.c (.int .i64 1)))),
    (.set 12 (.o2 (.bin .eql) (.t 11) (.c (.int .i64 1))))]) (.cond 12 (.sts [(.set 6 (.c (str [46])))]) (.seq (.sts [(.chk [] (.c2 (.bin .eql) (.t 11) (.c (.int .i64 2)))),
    (.set 14 (.o2 (.bin .eql) (.t 11) (.c (.int .i64 2))))]) (.cond 14 (.sts [(.set 6 (.c (str [97, 41, 46])))]) (.seq (.sts [(.chk [] (.c2 (.bin .eql) (.t 11) (.c (.int .i64 3)))),
    (.set 16 (.o2 (.bin .eql) (.t 11) (.c (.int .i64 3))))]) (.cond 16 (.sts [(.set 6 (.c (str [41, 46])))]) (.seq (.sts [(.chk [] (.c2 (.bin .eql) (.t 11) (.c (.int .i64 4)))),
    (.set 18 (.o2 (.bin .eql) (.t 11) (.c (.int .i64 4))))]) (.cond 18 (.sts [(.set 6 (.c (str [97, 46])))]) (.seq (.sts [(.chk [] (.c2 (.bin .eql) (.t 11) (.c (.int .i64 5)))),
    (.set 20 (.o2 (.bin .eql) (.t 11) (.c (.int .i64 5))))]) (.cond 20 (.sts [(.set 6 (.c (str [61, 97, 46])))]) (.seq (.sts [(.chk [] (.c2 (.bin .eql) (.t 11) (.c (.int .i64 6)))),
    (.set 22 (.o2 (.bin .eql) (.t 11) (.c (.int .i64 6))))]) (.cond 22 (.sts [(.set 6 (.c (str [97])))]) (.seq (.sts [(.chk [] (.c2 (.bin .eql) (.t 11) (.c (.int .i64 7)))),
    (.set 24 (.o2 (.bin .eql) (.t 11) (.c (.int .i64 7))))]) (.cond 24 (.sts [(.set 6 (.c (str [97, 41])))]) (.seq (.sts [(.chk [] (.c2 (.bin .eql) (.t 11) (.c (.int .i64 8)))),
    (.set 26 (.o2 (.bin .eql) (.t 11) (.c (.int .i64 8))))]) (.cond 26 (.sts [(.set 6 (.c (str [41])))]) .skip)))))))))))))))))) (.seq (.sts [(.chk [] (.c2 (.bin .add) (.t 1) (.c (str [10])))),
    (.chk [] (.c2 (.bin .add) (.o2 (.bin .add) (.t 1) (.c (str [10]))) (.t 6))),
    (.eff [] (some 33) (.call 43) [(.t 0), (.o2 (.bin .add) (.o2 (.bin .add) (.t 1) (.c (str [10]))) (.t 6))] []),
    (.eff [] (some 7) (.alloc 27 #[(.int .i64 0), (.int .i64 0), (.int .i64 0)]) [] []),
    (.eff [] none (.store 3) [(.t 7), (.t 33)] [])]) (.seq (.sts [(.chk [] (.c1 (.ldn 3) (.t 7))),
    (.chk [] (.cb 3 [])),
    (.chk [] (.c2 (.eqs false [(.int .i64), (.int .i64), (.int .i64)]) (.o1 (.ldn 3) (.t 7)) (.c (.agg #[(.int .i64 0), (.int .i64 0), (.int .i64 0)])))),
    (.chk [((.o2 (.eqs false [(.int .i64), (.int .i64), (.int .i64)]) (.o1 (.ldn 3) (.t 7)) (.c (.agg #[(.int .i64 0), (.int .i64 0), (.int .i64 0)]))), false)] (.c1 (.fld 0) (.t 7))),
    (.chk [((.o2 (.eqs false [(.int .i64), (.int .i64), (.int .i64)]) (.o1 (.ldn 3) (.t 7)) (.c (.agg #[(.int .i64 0), (.int .i64 0), (.int .i64 0)]))), false)] (.c1 .ld1 (.o1 (.fld 0) (.t 7)))),
    (.chk [((.o2 (.eqs false [(.int .i64), (.int .i64), (.int .i64)]) (.o1 (.ldn 3) (.t 7)) (.c (.agg #[(.int .i64 0), (.int .i64 0), (.int .i64 0)]))), false)] (.c2 (.bin .geq) (.o1 .ld1 (.o1 (.fld 0) (.t 7))) (.c (.int .i64 22)))),
    (.chk [((.o2 (.bin .geq) (.o1 .ld1 (.o1 (.fld 0) (.t 7))) (.c (.int .i64 22))), true), ((.o2 (.eqs false [(.int .i64), (.int .i64), (.int .i64)]) (.o1 (.ldn 3) (.t 7)) (.c (.agg #[(.int .i64 0), (.int .i64 0), (.int .i64 0)]))), false)] (.c1 (.fld 0) (.t 7))),
    (.chk [((.o2 (.bin .geq) (.o1 .ld1 (.o1 (.fld 0) (.t 7))) (.c (.int .i64 22))), true), ((.o2 (.eqs false [(.int .i64), (.int .i64), (.int .i64)]) (.o1 (.ldn 3) (.t 7)) (.c (.agg #[(.int .i64 0), (.int .i64 0), (.int .i64 0)]))), false)] (.c1 .ld1 (.o1 (.fld 0) (.t 7)))),
    (.chk [((.o2 (.bin .geq) (.o1 .ld1 (.o1 (.fld 0) (.t 7))) (.c (.int .i64 22))), true), ((.o2 (.eqs false [(.int .i64), (.int .i64), (.int .i64)]) (.o1 (.ldn 3) (.t 7)) (.c (.agg #[(.int .i64 0), (.int .i64 0), (.int .i64 0)]))), false)] (.c2 (.bin .leq) (.o1 .ld1 (.o1 (.fld 0) (.t 7))) (.c (.int .i64 24)))),
    (.chk [((.o2 (.eqs false [(.int .i64), (.int .i64), (.int .i64)]) (.o1 (.ldn 3) (.t 7)) (.c (.agg #[(.int .i64 0), (.int .i64 0), (.int .i64 0)]))), false)] (.c3 .pick (.o2 (.bin .geq) (.o1 .ld1 (.o1 (.fld 0) (.t 7))) (.c (.int .i64 22))) (.o2 (.bin .leq) (.o1 .ld1 (.o1 (.fld 0) (.t 7))) (.c (.int .i64 24))) (.c (.bool false)))),
    (.chk [((.o3 .pick (.o2 (.bin .geq) (.o1 .ld1 (.o1 (.fld 0) (.t 7))) (.c (.int .i64 22))) (.o2 (.bin .leq) (.o1 .ld1 (.o1 (.fld 0) (.t 7))) (.c (.int .i64 24))) (.c (.bool false))), true), ((.o2 (.eqs false [(.int .i64), (.int .i64), (.int .i64)]) (.o1 (.ldn 3) (.t 7)) (.c (.agg #[(.int .i64 0), (.int .i64 0), (.int .i64 0)]))), false)] (.c1 (.fld 2) (.t 7))),
    (.chk [((.o3 .pick (.o2 (.bin .geq) (.o1 .ld1 (.o1 (.fld 0) (.t 7))) (.c (.int .i64 22))) (.o2 (.bin .leq) (.o1 .ld1 (.o1 (.fld 0) (.t 7))) (.c (.int .i64 24))) (.c (.bool false))), true), ((.o2 (.eqs false [(.int .i64), (.int .i64), (.int .i64)]) (.o1 (.ldn 3) (.t 7)) (.c (.agg #[(.int .i64 0), (.int .i64 0), (.int .i64 0)]))), false)] (.c1 .ld1 (.o1 (.fld 2) (.t 7)))),
    (.chk [((.o3 .pick (.o2 (.bin .geq) (.o1 .ld1 (.o1 (.fld 0) (.t 7))) (.c (.int .i64 22))) (.o2 (.bin .leq) (.o1 .ld1 (.o1 (.fld 0) (.t 7))) (.c (.int .i64 24))) (.c (.bool false))), true), ((.o2 (.eqs false [(.int .i64), (.int .i64), (.int .i64)]) (.o1 (.ldn 3) (.t 7)) (.c (.agg #[(.int .i64 0), (.int .i64 0), (.int .i64 0)]))), false)] (.c1 .lens (.t 1))),
    (.chk [((.o3 .pick (.o2 (.bin .geq) (.o1 .ld1 (.o1 (.fld 0) (.t 7))) (.c (.int .i64 22))) (.o2 (.bin .leq) (.o1 .ld1 (.o1 (.fld 0) (.t 7))) (.c (.int .i64 24))) (.c (.bool false))), true), ((.o2 (.eqs false [(.int .i64), (.int .i64), (.int .i64)]) (.o1 (.ldn 3) (.t 7)) (.c (.agg #[(.int .i64 0), (.int .i64 0), (.int .i64 0)]))), false)] (.c2 (.bin .gtr) (.o1 .ld1 (.o1 (.fld 2) (.t 7))) (.o1 .lens (.t 1)))),
    (.chk [((.o2 (.eqs false [(.int .i64), (.int .i64), (.int .i64)]) (.o1 (.ldn 3) (.t 7)) (.c (.agg #[(.int .i64 0), (.int .i64 0), (.int .i64 0)]))), false)] (.c3 .pick (.o3 .pick (.o2 (.bin .geq) (.o1 .ld1 (.o1 (.fld 0) (.t 7))) (.c (.int .i64 22))) (.o2 (.bin .leq) (.o1 .ld1 (.o1 (.fld 0) (.t 7))) (.c (.int .i64 24))) (.c (.bool false))) (.o2 (.bin .gtr) (.o1 .ld1 (.o1 (.fld 2) (.t 7))) (.o1 .lens (.t 1))) (.c (.bool false)))),
    (.chk [] (.c3 .pick (.o2 (.eqs false [(.int .i64), (.int .i64), (.int .i64)]) (.o1 (.ldn 3) (.t 7)) (.c (.agg #[(.int .i64 0), (.int .i64 0), (.int .i64 0)]))) (.c (.bool true)) (.o3 .pick (.o3 .pick (.o2 (.bin .geq) (.o1 .ld1 (.o1 (.fld 0) (.t 7))) (.c (.int .i64 22))) (.o2 (.bin .leq) (.o1 .ld1 (.o1 (.fld 0) (.t 7))) (.c (.int .i64 24))) (.c (.bool false))) (.o2 (.bin .gtr) (.o1 .ld1 (.o1 (.fld 2) (.t 7))) (.o1 .lens (.t 1))) (.c (.bool false))))),
    (.set 53 (.o3 .pick (.o2 (.eqs false [(.int .i64), (.int .i64), (.int .i64)]) (.o1 (.ldn 3) (.t 7)) (.c (.agg #[(.int .i64 0), (.int .i64 0), (.int .i64 0)]))) (.c (.bool true)) (.o3 .pick (.o3 .pick (.o2 (.bin .geq) (.o1 .ld1 (.o1 (.fld 0) (.t 7))) (.c (.int .i64 22))) (.o2 (.bin .leq) (.o1 .ld1 (.o1 (.fld 0) (.t 7))) (.c (.int .i64 24))) (.c (.bool false))) (.o2 (.bin .gtr) (.o1 .ld1 (.o1 (.fld 2) (.t 7))) (.o1 .lens (.t 1))) (.c (.bool false)))))]) (.cond 53 (.seq (.sts [(.set 4 (.c (.bool true)))]) .ret) .skip))))))) (.sts [(.chk [] (.c2 (.bin .add) (.t 8) (.c (.int .i64 1)))),
    (.set 54 (.o2 (.bin .add) (.t 8) (.c (.int .i64 1)))),
    (.set 8 (.t 54))]))))
def plGoesOn_S : S :=
  (.seq (.sts [(.set 4 (.c (.bool false)))]) (.seq (.seq (.sts [(.set 8 (.c (.int .i64 0)))]) (.block 0 (.loop plGoesOn_L1))) (.seq (.sts [(.set 4 (.c (.bool false)))]) .ret)))
def plGoesOn_E : Res := [(none, (.t 4))]
theorem plGoesOn_C : Tryd.f44.body.bind (comp Tryd.prog plGoesOn_M Tryd.f44.ntmps) = some plGoesOn_S := by kernel_rfl
theorem plGoesOn_R : resE Tryd.prog plGoesOn_M Tryd.f44.results.toList = some plGoesOn_E := by kernel_rfl
theorem plGoesOn_H (G : Ctr) (hG : GOk Tryd.prog G) (a0 : Value) (a1 : Value) {h : H} {K : Value → H → Prop} {KP : List PanicEntry → H → Prop} (Hw : wpS G plGoesOn_S (retQ plGoesOn_E (callK K KP)) (envOf 0 [a0, a1] env0) h) : HCX Tryd.prog 44 [a0, a1] h K KP :=
  .inl ⟨by kernel_rfl, hc_of mixed hG Tryd.func44 plGoesOn_C plGoesOn_R (of_decide_eq_true (by kernel_rfl)) Hw⟩
def ParseStops_M : Nat → Bool := fun i => Nat.testBit 1134696001962909 i
def ParseStops_L1 : S :=
  (.seq (.sts [(.chk [] (.c2 (.bin .lss) (.t 8) (.c (.int .i64 4)))),
    (.set 9 (.o2 (.bin .lss) (.t 8) (.c (.int .i64 4))))]) (.seq (.cond 9 .skip (.exit 0)) (.seq (.block 1 (.seq (.sts [(.set 3 (.t 8))]) (.seq (.sts [(.eff [] (some 13) (.call 43) [(.t 3), (.t 0)] []),
    (.eff [] (some 4) (.alloc 27 #[(.int .i64 0), (.int .i64 0), (.int .i64 0)]) [] []),
    (.eff [] none (.store 3) [(.t 4), (.t 13)] [])]) (.seq (.seq (.sts [(.chk [] (.c1 (.fld 0) (.t 4))),
    (.chk [] (.c1 .ld1 (.o1 (.fld 0) (.t 4)))),
    (.chk [] (.c2 (.bin .neq) (.o1 .ld1 (.o1 (.fld 0) (.t 4))) (.c (.int .i64 20)))),
    (.chk [((.o2 (.bin .neq) (.o1 .ld1 (.o1 (.fld 0) (.t 4))) (.c (.int .i64 20))), true)] (.c1 (.fld 0) (.t 4))),
    (.chk [((.o2 (.bin .neq) (.o1 .ld1 (.o1 (.fld 0) (.t 4))) (.c (.int .i64 20))), true)] (.c1 .ld1 (.o1 (.fld 0) (.t 4)))),
    (.chk [((.o2 (.bin .neq) (.o1 .ld1 (.o1 (.fld 0) (.t 4))) (.c (.int .i64 20))), true)] (.c2 (.bin .neq) (.o1 .ld1 (.o1 (.fld 0) (.t 4))) (.c (.int .i64 21)))),
    (.chk [] (.c3 .pick (.o2 (.bin .neq) (.o1 .ld1 (.o1 (.fld 0) (.t 4))) (.c (.int .i64 20))) (.o2 (.bin .neq) (.o1 .ld1 (.o1 (.fld 0) (.t 4))) (.c (.int .i64 21))) (.c (.bool false)))),
    (.set 21 (.o3 .pick (.o2 (.bin .neq) (.o1 .ld1 (.o1 (.fld 0) (.t 4))) (.c (.int .i64 20))) (.o2 (.bin .neq) (.o1 .ld1 (.o1 (.fld 0) (.t 4))) (.c (.int .i64 21))) (.c (.bool false))))]) (.cond 21 (.exit 1) .skip)) (.seq (.seq (.sts [(.chk [] (.c1 (.fld 2) (.t 4))),
    (.chk [] (.c1 .ld1 (.o1 (.fld 2) (.t 4)))),
    (.chk [] (.c2 (.bin .lss) (.o1 .ld1 (.o1 (.fld 2) (.t 4))) (.c (.int .i64 0)))),
    (.chk [((.o2 (.bin .lss) (.o1 .ld1 (.o1 (.fld 2) (.t 4))) (.c (.int .i64 0))), false)] (.c1 (.fld 2) (.t 4))),
    (.chk [((.o2 (.bin .lss) (.o1 .ld1 (.o1 (.fld 2) (.t 4))) (.c (.int .i64 0))), false)] (.c1 .ld1 (.o1 (.fld 2) (.t 4)))),
    (.chk [((.o2 (.bin .lss) (.o1 .ld1 (.o1 (.fld 2) (.t 4))) (.c (.int .i64 0))), false)] (.c1 .lens (.t 0))),
    (.chk [((.o2 (.bin .lss) (.o1 .ld1 (.o1 (.fld 2) (.t 4))) (.c (.int .i64 0))), false)] (.c2 (.bin .gtr) (.o1 .ld1 (.o1 (.fld 2) (.t 4))) (.o1 .lens (.t 0)))),
    (.chk [] (.c3 .pick (.o2 (.bin .lss) (.o1 .ld1 (.o1 (.fld 2) (.t 4))) (.c (.int .i64 0))) (.c (.bool true)) (.o2 (.bin .gtr) (.o1 .ld1 (.o1 (.fld 2) (.t 4))) (.o1 .lens (.t 0))))),
    (.chk [((.o3 .pick (.o2 (.bin .lss) (.o1 .ld1 (.o1 (.fld 2) (.t 4))) (.c (.int .i64 0))) (.c (.bool true)) (.o2 (.bin .gtr) (.o1 .ld1 (.o1 (.fld 2) (.t 4))) (.o1 .lens (.t 0)))), false)] (.c1 (.fld 0) (.t 4))),
    (.chk [((.o3 .pick (.o2 (.bin .lss) (.o1 .ld1 (.o1 (.fld 2) (.t 4))) (.c (.int .i64 0))) (.c (.bool true)) (.o2 (.bin .gtr) (.o1 .ld1 (.o1 (.fld 2) (.t 4))) (.o1 .lens (.t 0)))), false)] (.c1 .ld1 (.o1 (.fld 0) (.t 4)))),
    (.chk [((.o3 .pick (.o2 (.bin .lss) (.o1 .ld1 (.o1 (.fld 2) (.t 4))) (.c (.int .i64 0))) (.c (.bool true)) (.o2 (.bin .gtr) (.o1 .ld1 (.o1 (.fld 2) (.t 4))) (.o1 .lens (.t 0)))), false)] (.c2 (.bin .eql) (.o1 .ld1 (.o1 (.fld 0) (.t 4))) (.c (.int .i64 21)))),
    (.chk [((.o2 (.bin .eql) (.o1 .ld1 (.o1 (.fld 0) (.t 4))) (.c (.int .i64 21))), true), ((.o3 .pick (.o2 (.bin .lss) (.o1 .ld1 (.o1 (.fld 2) (.t 4))) (.c (.int .i64 0))) (.c (.bool true)) (.o2 (.bin .gtr) (.o1 .ld1 (.o1 (.fld 2) (.t 4))) (.o1 .lens (.t 0)))), false)] (.c1 (.fld 2) (.t 4))),
    (.chk [((.o2 (.bin .eql) (.o1 .ld1 (.o1 (.fld 0) (.t 4))) (.c (.int .i64 21))), true), ((.o3 .pick (.o2 (.bin .lss) (.o1 .ld1 (.o1 (.fld 2) (.t 4))) (.c (.int .i64 0))) (.c (.bool true)) (.o2 (.bin .gtr) (.o1 .ld1 (.o1 (.fld 2) (.t 4))) (.o1 .lens (.t 0)))), false)] (.c1 .ld1 (.o1 (.fld 2) (.t 4)))),
    (.chk [((.o2 (.bin .eql) (.o1 .ld1 (.o1 (.fld 0) (.t 4))) (.c (.int .i64 21))), true), ((.o3 .pick (.o2 (.bin .lss) (.o1 .ld1 (.o1 (.fld 2) (.t 4))) (.c (.int .i64 0))) (.c (.bool true)) (.o2 (.bin .gtr) (.o1 .ld1 (.o1 (.fld 2) (.t 4))) (.o1 .lens (.t 0)))), false)] (.c1 .lens (.t 0))),
    (.chk [((.o2 (.bin .eql) (.o1 .ld1 (.o1 (.fld 0) (.t 4))) (.c (.int .i64 21))), true), ((.o3 .pick (.o2 (.bin .lss) (.o1 .ld1 (.o1 (.fld 2) (.t 4))) (.c (.int .i64 0))) (.c (.bool true)) (.o2 (.bin .gtr) (.o1 .ld1 (.o1 (.fld 2) (.t 4))) (.o1 .lens (.t 0)))), false)] (.c2 (.bin .neq) (.o1 .ld1 (.o1 (.fld 2) (.t 4))) (.o1 .lens (.t 0)))),
    (.chk [((.o3 .pick (.o2 (.bin .lss) (.o1 .ld1 (.o1 (.fld 2) (.t 4))) (.c (.int .i64 0))) (.c (.bool true)) (.o2 (.bin .gtr) (.o1 .ld1 (.o1 (.fld 2) (.t 4))) (.o1 .lens (.t 0)))), false)] (.c3 .pick (.o2 (.bin .eql) (.o1 .ld1 (.o1 (.fld 0) (.t 4))) (.c (.int .i64 21))) (.o2 (.bin .neq) (.o1 .ld1 (.o1 (.fld 2) (.t 4))) (.o1 .lens (.t 0))) (.c (.bool false)))),
    (.chk [] (.c3 .pick (.o3 .pick (.o2 (.bin .lss) (.o1 .ld1 (.o1 (.fld 2) (.t 4))) (.c (.int .i64 0))) (.c (.bool true)) (.o2 (.bin .gtr) (.o1 .ld1 (.o1 (.fld 2) (.t 4))) (.o1 .lens (.t 0)))) (.c (.bool true)) (.o3 .pick (.o2 (.bin .eql) (.o1 .ld1 (.o1 (.fld 0) (.t 4))) (.c (.int .i64 21))) (.o2 (.bin .neq) (.o1 .ld1 (.o1 (.fld 2) (.t 4))) (.o1 .lens (.t 0))) (.c (.bool false))))),
    (.set 43 (.o3 .pick (.o3 .pick (.o2 (.bin .lss) (.o1 .ld1 (.o1 (.fld 2) (.t 4))) (.c (.int .i64 0))) (.c (.bool true)) (.o2 (.bin .gtr) (.o1 .ld1 (.o1 (.fld 2) (.t 4))) (.o1 .lens (.t 0)))) (.c (.bool true)) (.o3 .pick (.o2 (.bin .eql) (.o1 .ld1 (.o1 (.fld 0) (.t 4))) (.c (.int .i64 21))) (.o2 (.bin .neq) (.o1 .ld1 (.o1 (.fld 2) (.t 4))) (.o1 .lens (.t 0))) (.c (.bool false)))))]) (.cond 43 (.seq (.sts [(.set 2 (.c (.bool false)))]) .ret) .skip)) (.seq (.sts [(.chk [] (.c1 (.fld 2) (.t 4))),
    (.chk [] (.c1 .ld1 (.o1 (.fld 2) (.t 4)))),
    (.chk [] (.c2 .subHi (.t 0) (.o1 .ld1 (.o1 (.fld 2) (.t 4))))),
    (.set 48 (.o2 .subHi (.t 0) (.o1 .ld1 (.o1 (.fld 2) (.t 4))))),
    (.eff [] (some 49) (.call 44) [(.t 3), (.t 48)] []),
    (.chk [] (.c1 .not (.t 49))),
    (.set 50 (.o1 .not (.t 49)))]) (.cond 50 (.seq (.sts [(.set 2 (.c (.bool false)))]) .ret) .skip))))))) (.sts [(.chk [] (.c2 (.bin .add) (.t 8) (.c (.int .i64 1)))),
    (.set 51 (.o2 (.bin .add) (.t 8) (.c (.int .i64 1)))),
    (.set 8 (.t 51))]))))
def ParseStops_S : S :=
  (.seq (.sts [(.set 2 (.c (.bool false)))]) (.seq (.seq (.sts [(.chk [] (.c1 .lens (.t 0))),
    (.chk [] (.c2 (.bin .gtr) (.o1 .lens (.t 0)) (.c (.int .i64 60000)))),
    (.set 7 (.o2 (.bin .gtr) (.o1 .lens (.t 0)) (.c (.int .i64 60000))))]) (.cond 7 (.seq (.sts [(.set 2 (.c (.bool true)))]) .ret) .skip)) (.seq (.seq (.sts [(.set 8 (.c (.int .i64 0)))]) (.block 0 (.loop ParseStops_L1))) (.seq (.sts [(.eff [] (some 52) (.call 29) [] []),
    (.set 2 (.t 52))]) .ret))))
def ParseStops_E : Res := [(none, (.t 2))]
theorem ParseStops_C : Tryd.f14.body.bind (comp Tryd.prog ParseStops_M Tryd.f14.ntmps) = some ParseStops_S := by kernel_rfl
theorem ParseStops_R : resE Tryd.prog ParseStops_M Tryd.f14.results.toList = some ParseStops_E := by kernel_rfl
theorem ParseStops_H (G : Ctr) (hG : GOk Tryd.prog G) (a0 : Value) {h : H} {K : Value → H → Prop} {KP : List PanicEntry → H → Prop} (Hw : wpS G ParseStops_S (retQ ParseStops_E (callK K KP)) (envOf 0 [a0] env0) h) : HCX Tryd.prog 14 [a0] h K KP :=
  .inl ⟨by kernel_rfl, hc_of mixed hG Tryd.func14 ParseStops_C ParseStops_R (of_decide_eq_true (by kernel_rfl)) Hw⟩
end Go.Proofs.YtmnfhmbmifompaaDoor
