/- The small statements of functions of the program, as the closed computation gives them (written by a program of ours; checked by the kernel below). -/
import Derived.Test.YtmnfhmbmifompaaDoorEvB
import Derived.Test.YtmnfhmbmifompaaDoorProg
import Derived.KernelRfl
import Derived.Test.YtmnfhmbmifompaaDoorPlS
namespace Go.Proofs.YtmnfhmbmifompaaDoor
open Go Go.Ev
def ParseBehind_M : Nat → Bool := fun i => Nat.testBit 1210124866987684702587827 i
def ParseBehind_L2 : S :=
  (.seq (.sts [(.chk [] (.c2 (.bin .lss) (.t 38) (.t 37))),
    (.set 39 (.o2 (.bin .lss) (.t 38) (.t 37)))]) (.seq (.cond 39 .skip (.exit 2)) (.seq (.block 3 (.seq (.sts [(.chk [] (.c2 (.idxA 6) (.t 36) (.t 38))),
    (.chk [] (.c1 (.ldn 6) (.o2 (.idxA 6) (.t 36) (.t 38)))),
    (.set 41 (.o1 (.ldn 6) (.o2 (.idxA 6) (.t 36) (.t 38)))),
    (.eff [] (some 11) (.alloc 75 #[(.int .i64 0), (str []), (.int .i64 0), (.int .i64 0), (.int .i64 0), (.int .i64 0)]) [] []),
    (.eff [] none (.store 6) [(.t 11), (.t 41)] [])]) (.seq (.sts [(.chk [] (.c1 (.fld 4) (.t 11))),
    (.chk [] (.c1 .ld1 (.o1 (.fld 4) (.t 11)))),
    (.chk [] (.c1 (.fld 2) (.t 8))),
    (.chk [] (.c1 .ld1 (.o1 (.fld 2) (.t 8)))),
    (.chk [] (.c2 (.bin .eql) (.o1 .ld1 (.o1 (.fld 4) (.t 11))) (.o1 .ld1 (.o1 (.fld 2) (.t 8))))),
    (.chk [((.o2 (.bin .eql) (.o1 .ld1 (.o1 (.fld 4) (.t 11))) (.o1 .ld1 (.o1 (.fld 2) (.t 8)))), true)] (.c1 (.fld 5) (.t 11))),
    (.chk [((.o2 (.bin .eql) (.o1 .ld1 (.o1 (.fld 4) (.t 11))) (.o1 .ld1 (.o1 (.fld 2) (.t 8)))), true)] (.c1 .ld1 (.o1 (.fld 5) (.t 11)))),
    (.chk [((.o2 (.bin .eql) (.o1 .ld1 (.o1 (.fld 4) (.t 11))) (.o1 .ld1 (.o1 (.fld 2) (.t 8)))), true)] (.c1 (.fld 4) (.t 11))),
    (.chk [((.o2 (.bin .eql) (.o1 .ld1 (.o1 (.fld 4) (.t 11))) (.o1 .ld1 (.o1 (.fld 2) (.t 8)))), true)] (.c1 .ld1 (.o1 (.fld 4) (.t 11)))),
    (.chk [((.o2 (.bin .eql) (.o1 .ld1 (.o1 (.fld 4) (.t 11))) (.o1 .ld1 (.o1 (.fld 2) (.t 8)))), true)] (.c2 (.bin .gtr) (.o1 .ld1 (.o1 (.fld 5) (.t 11))) (.o1 .ld1 (.o1 (.fld 4) (.t 11))))),
    (.chk [] (.c3 .pick (.o2 (.bin .eql) (.o1 .ld1 (.o1 (.fld 4) (.t 11))) (.o1 .ld1 (.o1 (.fld 2) (.t 8)))) (.o2 (.bin .gtr) (.o1 .ld1 (.o1 (.fld 5) (.t 11))) (.o1 .ld1 (.o1 (.fld 4) (.t 11)))) (.c (.bool false)))),
    (.set 53 (.o3 .pick (.o2 (.bin .eql) (.o1 .ld1 (.o1 (.fld 4) (.t 11))) (.o1 .ld1 (.o1 (.fld 2) (.t 8)))) (.o2 (.bin .gtr) (.o1 .ld1 (.o1 (.fld 5) (.t 11))) (.o1 .ld1 (.o1 (.fld 4) (.t 11)))) (.c (.bool false))))]) (.cond 53 (.sts [(.chk [] (.c1 (.fld 5) (.t 11))),
    (.chk [] (.c1 .ld1 (.o1 (.fld 5) (.t 11)))),
    (.set 9 (.o1 .ld1 (.o1 (.fld 5) (.t 11))))]) .skip)))) (.sts [(.chk [] (.c2 (.bin .add) (.t 38) (.c (.int .i64 1)))),
    (.set 56 (.o2 (.bin .add) (.t 38) (.c (.int .i64 1)))),
    (.set 38 (.t 56))]))))
def ParseBehind_L1 : S :=
  (.seq (.sts [(.chk [] (.c2 (.bin .lss) (.t 17) (.c (.int .i64 4)))),
    (.set 18 (.o2 (.bin .lss) (.t 17) (.c (.int .i64 4))))]) (.seq (.cond 18 .skip (.exit 0)) (.seq (.block 1 (.seq (.sts [(.set 7 (.t 17))]) (.seq (.sts [(.eff [] (some 22) (.call 43) [(.t 7), (.t 0)] []),
    (.eff [] (some 8) (.alloc 27 #[(.int .i64 0), (.int .i64 0), (.int .i64 0)]) [] []),
    (.eff [] none (.store 3) [(.t 8), (.t 22)] [])]) (.seq (.seq (.sts [(.chk [] (.c1 (.fld 0) (.t 8))),
    (.chk [] (.c1 .ld1 (.o1 (.fld 0) (.t 8)))),
    (.chk [] (.c2 (.bin .lss) (.o1 .ld1 (.o1 (.fld 0) (.t 8))) (.c (.int .i64 20)))),
    (.chk [((.o2 (.bin .lss) (.o1 .ld1 (.o1 (.fld 0) (.t 8))) (.c (.int .i64 20))), false)] (.c1 (.fld 0) (.t 8))),
    (.chk [((.o2 (.bin .lss) (.o1 .ld1 (.o1 (.fld 0) (.t 8))) (.c (.int .i64 20))), false)] (.c1 .ld1 (.o1 (.fld 0) (.t 8)))),
    (.chk [((.o2 (.bin .lss) (.o1 .ld1 (.o1 (.fld 0) (.t 8))) (.c (.int .i64 20))), false)] (.c2 (.bin .gtr) (.o1 .ld1 (.o1 (.fld 0) (.t 8))) (.c (.int .i64 24)))),
    (.chk [] (.c3 .pick (.o2 (.bin .lss) (.o1 .ld1 (.o1 (.fld 0) (.t 8))) (.c (.int .i64 20))) (.c (.bool true)) (.o2 (.bin .gtr) (.o1 .ld1 (.o1 (.fld 0) (.t 8))) (.c (.int .i64 24))))),
    (.chk [((.o3 .pick (.o2 (.bin .lss) (.o1 .ld1 (.o1 (.fld 0) (.t 8))) (.c (.int .i64 20))) (.c (.bool true)) (.o2 (.bin .gtr) (.o1 .ld1 (.o1 (.fld 0) (.t 8))) (.c (.int .i64 24)))), false)] (.c1 (.fld 0) (.t 8))),
    (.chk [((.o3 .pick (.o2 (.bin .lss) (.o1 .ld1 (.o1 (.fld 0) (.t 8))) (.c (.int .i64 20))) (.c (.bool true)) (.o2 (.bin .gtr) (.o1 .ld1 (.o1 (.fld 0) (.t 8))) (.c (.int .i64 24)))), false)] (.c1 .ld1 (.o1 (.fld 0) (.t 8)))),
    (.chk [((.o3 .pick (.o2 (.bin .lss) (.o1 .ld1 (.o1 (.fld 0) (.t 8))) (.c (.int .i64 20))) (.c (.bool true)) (.o2 (.bin .gtr) (.o1 .ld1 (.o1 (.fld 0) (.t 8))) (.c (.int .i64 24)))), false)] (.c2 (.bin .eql) (.o1 .ld1 (.o1 (.fld 0) (.t 8))) (.c (.int .i64 21)))),
    (.chk [] (.c3 .pick (.o3 .pick (.o2 (.bin .lss) (.o1 .ld1 (.o1 (.fld 0) (.t 8))) (.c (.int .i64 20))) (.c (.bool true)) (.o2 (.bin .gtr) (.o1 .ld1 (.o1 (.fld 0) (.t 8))) (.c (.int .i64 24)))) (.c (.bool true)) (.o2 (.bin .eql) (.o1 .ld1 (.o1 (.fld 0) (.t 8))) (.c (.int .i64 21))))),
    (.set 35 (.o3 .pick (.o3 .pick (.o2 (.bin .lss) (.o1 .ld1 (.o1 (.fld 0) (.t 8))) (.c (.int .i64 20))) (.c (.bool true)) (.o2 (.bin .gtr) (.o1 .ld1 (.o1 (.fld 0) (.t 8))) (.c (.int .i64 24)))) (.c (.bool true)) (.o2 (.bin .eql) (.o1 .ld1 (.o1 (.fld 0) (.t 8))) (.c (.int .i64 21)))))]) (.cond 35 (.exit 1) .skip)) (.seq (.sts [(.set 9 (.c (.int .i64 (-1))))]) (.seq (.seq (.sts [(.set 36 (.t 5)),
    (.chk [] (.c1 .len (.t 36))),
    (.set 37 (.o1 .len (.t 36))),
    (.set 38 (.c (.int .i64 0)))]) (.block 2 (.loop ParseBehind_L2))) (.seq (.seq (.sts [(.chk [] (.c2 (.bin .lss) (.t 9) (.c (.int .i64 0)))),
    (.chk [((.o2 (.bin .lss) (.t 9) (.c (.int .i64 0))), false)] (.c1 .lens (.t 0))),
    (.chk [((.o2 (.bin .lss) (.t 9) (.c (.int .i64 0))), false)] (.c2 (.bin .gtr) (.t 9) (.o1 .lens (.t 0)))),
    (.chk [] (.c3 .pick (.o2 (.bin .lss) (.t 9) (.c (.int .i64 0))) (.c (.bool true)) (.o2 (.bin .gtr) (.t 9) (.o1 .lens (.t 0))))),
    (.set 64 (.o3 .pick (.o2 (.bin .lss) (.t 9) (.c (.int .i64 0))) (.c (.bool true)) (.o2 (.bin .gtr) (.t 9) (.o1 .lens (.t 0)))))]) (.cond 64 (.seq (.sts [(.set 4 (.c (.bool false)))]) .ret) .skip)) (.seq (.seq (.sts [(.chk [] (.c2 (.bin .add) (.t 9) (.c (.int .i64 1)))),
    (.chk [] (.c1 .lens (.t 1))),
    (.chk [] (.c2 (.bin .add) (.o2 (.bin .add) (.t 9) (.c (.int .i64 1))) (.o1 .lens (.t 1)))),
    (.chk [] (.c2 (.bin .gtr) (.o2 (.bin .add) (.o2 (.bin .add) (.t 9) (.c (.int .i64 1))) (.o1 .lens (.t 1))) (.c (.int .i64 65536)))),
    (.set 70 (.o2 (.bin .gtr) (.o2 (.bin .add) (.o2 (.bin .add) (.t 9) (.c (.int .i64 1))) (.o1 .lens (.t 1))) (.c (.int .i64 65536))))]) (.cond 70 (.exit 1) .skip)) (.seq (.sts [(.chk [] (.c2 .subHi (.t 0) (.t 9))),
    (.chk [] (.c2 (.bin .add) (.o2 .subHi (.t 0) (.t 9)) (.c (str [10])))),
    (.chk [] (.c2 (.bin .add) (.o2 (.bin .add) (.o2 .subHi (.t 0) (.t 9)) (.c (str [10]))) (.t 1))),
    (.chk [] (.c1 (.ldn 3) (.t 8))),
    (.set 79 (.o1 (.ldn 3) (.t 8))),
    (.eff [] (some 78) (.call 43) [(.t 7), (.o2 (.bin .add) (.o2 (.bin .add) (.o2 .subHi (.t 0) (.t 9)) (.c (str [10]))) (.t 1))] [([], ((.t 8), (some 3)))]),
    (.chk [] (.c2 (.eqs true [(.int .i64), (.int .i64), (.int .i64)]) (.t 78) (.t 79))),
    (.set 80 (.o2 (.eqs true [(.int .i64), (.int .i64), (.int .i64)]) (.t 78) (.t 79)))]) (.cond 80 (.seq (.sts [(.set 4 (.c (.bool false)))]) .ret) .skip)))))))))) (.sts [(.chk [] (.c2 (.bin .add) (.t 17) (.c (.int .i64 1)))),
    (.set 81 (.o2 (.bin .add) (.t 17) (.c (.int .i64 1)))),
    (.set 17 (.t 81))]))))
def ParseBehind_S : S :=
  (.seq (.sts [(.set 4 (.c (.bool false)))]) (.seq (.sts [(.eff [] (some 14) (.call 31) [(.t 0)] []),
    (.chk [] (.c1 (.ext 0) (.t 14))),
    (.chk [] (.c1 (.ext 1) (.t 14))),
    (.eff [] (some 6) (.alloc 27 #[(.int .i64 0), (.int .i64 0), (.int .i64 0)]) [] []),
    (.set 5 (.o1 (.ext 0) (.t 14))),
    (.eff [] none (.store 3) [(.t 6), (.o1 (.ext 1) (.t 14))] [])]) (.seq (.seq (.sts [(.set 17 (.c (.int .i64 0)))]) (.block 0 (.loop ParseBehind_L1))) (.seq (.sts [(.eff [] (some 82) (.call 29) [] []),
    (.set 4 (.t 82))]) .ret))))
def ParseBehind_E : Res := [(none, (.t 4))]
theorem ParseBehind_C : Tryd.f15.body.bind (comp Tryd.prog ParseBehind_M Tryd.f15.ntmps) = some ParseBehind_S := by kernel_rfl
theorem ParseBehind_R : resE Tryd.prog ParseBehind_M Tryd.f15.results.toList = some ParseBehind_E := by kernel_rfl
theorem ParseBehind_H (G : Ctr) (hG : GOk Tryd.prog G) (a0 : Value) (a1 : Value) {h : H} {K : Value → H → Prop} {KP : List PanicEntry → H → Prop} (Hw : wpS G ParseBehind_S (retQ ParseBehind_E (callK K KP)) (envOf 0 [a0, a1] env0) h) : HCX Tryd.prog 15 [a0, a1] h K KP :=
  .inl ⟨by kernel_rfl, hc_of mixed hG Tryd.func15 ParseBehind_C ParseBehind_R (of_decide_eq_true (by kernel_rfl)) Hw⟩
end Go.Proofs.YtmnfhmbmifompaaDoor
