/- The small statements of functions of the program, as the closed computation gives them (written by a program of ours; checked by the kernel below). -/
import Derived.Test.YtmnfhmbmifompaaGreatDoorEvB
import Derived.Test.YtmnfhmbmifompaaGreatDoorProg
import Derived.KernelRfl
import Derived.Test.YtmnfhmbmifompaaGreatDoorPrS
namespace Go.Proofs.YtmnfhmbmifompaaGreatDoor
open Go Go.Ev
def plSameAtom_M : Nat → Bool := fun i => Nat.testBit 8799918227519 i
def plSameAtom_L1 : S :=
  (.seq (.sts [(.chk [] (.c2 (.bin .lss) (.t 30) (.t 29))),
    (.set 31 (.o2 (.bin .lss) (.t 30) (.t 29)))]) (.seq (.cond 31 .skip (.exit 0)) (.seq (.block 1 (.seq (.sts [(.set 5 (.t 30))]) (.seq (.sts [(.chk [] (.c1 (.fld 1) (.t 2))),
    (.chk [] (.c1 .ld1 (.o1 (.fld 1) (.t 2)))),
    (.chk [] (.c2 (.idxA 4) (.o1 .ld1 (.o1 (.fld 1) (.t 2))) (.t 5))),
    (.chk [] (.c1 (.ldn 4) (.o2 (.idxA 4) (.o1 .ld1 (.o1 (.fld 1) (.t 2))) (.t 5)))),
    (.chk [] (.c1 (.fld 1) (.t 3))),
    (.chk [] (.c1 .ld1 (.o1 (.fld 1) (.t 3)))),
    (.chk [] (.c2 (.idxA 4) (.o1 .ld1 (.o1 (.fld 1) (.t 3))) (.t 5))),
    (.chk [] (.c1 (.ldn 4) (.o2 (.idxA 4) (.o1 .ld1 (.o1 (.fld 1) (.t 3))) (.t 5)))),
    (.chk [] (.c2 (.eqs true [(.int .i64), (.int .i64), .str, (.int .i64)]) (.o1 (.ldn 4) (.o2 (.idxA 4) (.o1 .ld1 (.o1 (.fld 1) (.t 2))) (.t 5))) (.o1 (.ldn 4) (.o2 (.idxA 4) (.o1 .ld1 (.o1 (.fld 1) (.t 3))) (.t 5))))),
    (.set 43 (.o2 (.eqs true [(.int .i64), (.int .i64), .str, (.int .i64)]) (.o1 (.ldn 4) (.o2 (.idxA 4) (.o1 .ld1 (.o1 (.fld 1) (.t 2))) (.t 5))) (.o1 (.ldn 4) (.o2 (.idxA 4) (.o1 .ld1 (.o1 (.fld 1) (.t 3))) (.t 5)))))]) (.cond 43 (.seq (.sts [(.set 4 (.c (.bool false)))]) .ret) .skip)))) (.sts [(.chk [] (.c2 (.bin .add) (.t 30) (.c (.int .i64 1)))),
    (.set 44 (.o2 (.bin .add) (.t 30) (.c (.int .i64 1)))),
    (.set 30 (.t 44))]))))
def plSameAtom_S : S :=
  (.seq (.sts [(.eff [] (some 2) (.box 51) [(.t 0)] []),
    (.eff [] (some 3) (.box 51) [(.t 1)] []),
    (.set 4 (.c (.bool false)))]) (.seq (.seq (.sts [(.chk [] (.c1 (.fld 0) (.t 2))),
    (.chk [] (.c1 .ld1 (.o1 (.fld 0) (.t 2)))),
    (.chk [] (.c1 (.fld 0) (.t 3))),
    (.chk [] (.c1 .ld1 (.o1 (.fld 0) (.t 3)))),
    (.chk [] (.c2 (.bin .neq) (.o1 .ld1 (.o1 (.fld 0) (.t 2))) (.o1 .ld1 (.o1 (.fld 0) (.t 3))))),
    (.chk [((.o2 (.bin .neq) (.o1 .ld1 (.o1 (.fld 0) (.t 2))) (.o1 .ld1 (.o1 (.fld 0) (.t 3)))), false)] (.c1 (.fld 2) (.t 2))),
    (.chk [((.o2 (.bin .neq) (.o1 .ld1 (.o1 (.fld 0) (.t 2))) (.o1 .ld1 (.o1 (.fld 0) (.t 3)))), false)] (.c1 .ld1 (.o1 (.fld 2) (.t 2)))),
    (.chk [((.o2 (.bin .neq) (.o1 .ld1 (.o1 (.fld 0) (.t 2))) (.o1 .ld1 (.o1 (.fld 0) (.t 3)))), false)] (.c1 (.fld 2) (.t 3))),
    (.chk [((.o2 (.bin .neq) (.o1 .ld1 (.o1 (.fld 0) (.t 2))) (.o1 .ld1 (.o1 (.fld 0) (.t 3)))), false)] (.c1 .ld1 (.o1 (.fld 2) (.t 3)))),
    (.chk [((.o2 (.bin .neq) (.o1 .ld1 (.o1 (.fld 0) (.t 2))) (.o1 .ld1 (.o1 (.fld 0) (.t 3)))), false)] (.c2 (.bin .neq) (.o1 .ld1 (.o1 (.fld 2) (.t 2))) (.o1 .ld1 (.o1 (.fld 2) (.t 3))))),
    (.chk [] (.c3 .pick (.o2 (.bin .neq) (.o1 .ld1 (.o1 (.fld 0) (.t 2))) (.o1 .ld1 (.o1 (.fld 0) (.t 3)))) (.c (.bool true)) (.o2 (.bin .neq) (.o1 .ld1 (.o1 (.fld 2) (.t 2))) (.o1 .ld1 (.o1 (.fld 2) (.t 3)))))),
    (.chk [((.o3 .pick (.o2 (.bin .neq) (.o1 .ld1 (.o1 (.fld 0) (.t 2))) (.o1 .ld1 (.o1 (.fld 0) (.t 3)))) (.c (.bool true)) (.o2 (.bin .neq) (.o1 .ld1 (.o1 (.fld 2) (.t 2))) (.o1 .ld1 (.o1 (.fld 2) (.t 3))))), false)] (.c1 (.fld 1) (.t 2))),
    (.chk [((.o3 .pick (.o2 (.bin .neq) (.o1 .ld1 (.o1 (.fld 0) (.t 2))) (.o1 .ld1 (.o1 (.fld 0) (.t 3)))) (.c (.bool true)) (.o2 (.bin .neq) (.o1 .ld1 (.o1 (.fld 2) (.t 2))) (.o1 .ld1 (.o1 (.fld 2) (.t 3))))), false)] (.c1 .ld1 (.o1 (.fld 1) (.t 2)))),
    (.chk [((.o3 .pick (.o2 (.bin .neq) (.o1 .ld1 (.o1 (.fld 0) (.t 2))) (.o1 .ld1 (.o1 (.fld 0) (.t 3)))) (.c (.bool true)) (.o2 (.bin .neq) (.o1 .ld1 (.o1 (.fld 2) (.t 2))) (.o1 .ld1 (.o1 (.fld 2) (.t 3))))), false)] (.c1 .len (.o1 .ld1 (.o1 (.fld 1) (.t 2))))),
    (.chk [((.o3 .pick (.o2 (.bin .neq) (.o1 .ld1 (.o1 (.fld 0) (.t 2))) (.o1 .ld1 (.o1 (.fld 0) (.t 3)))) (.c (.bool true)) (.o2 (.bin .neq) (.o1 .ld1 (.o1 (.fld 2) (.t 2))) (.o1 .ld1 (.o1 (.fld 2) (.t 3))))), false)] (.c1 (.fld 1) (.t 3))),
    (.chk [((.o3 .pick (.o2 (.bin .neq) (.o1 .ld1 (.o1 (.fld 0) (.t 2))) (.o1 .ld1 (.o1 (.fld 0) (.t 3)))) (.c (.bool true)) (.o2 (.bin .neq) (.o1 .ld1 (.o1 (.fld 2) (.t 2))) (.o1 .ld1 (.o1 (.fld 2) (.t 3))))), false)] (.c1 .ld1 (.o1 (.fld 1) (.t 3)))),
    (.chk [((.o3 .pick (.o2 (.bin .neq) (.o1 .ld1 (.o1 (.fld 0) (.t 2))) (.o1 .ld1 (.o1 (.fld 0) (.t 3)))) (.c (.bool true)) (.o2 (.bin .neq) (.o1 .ld1 (.o1 (.fld 2) (.t 2))) (.o1 .ld1 (.o1 (.fld 2) (.t 3))))), false)] (.c1 .len (.o1 .ld1 (.o1 (.fld 1) (.t 3))))),
    (.chk [((.o3 .pick (.o2 (.bin .neq) (.o1 .ld1 (.o1 (.fld 0) (.t 2))) (.o1 .ld1 (.o1 (.fld 0) (.t 3)))) (.c (.bool true)) (.o2 (.bin .neq) (.o1 .ld1 (.o1 (.fld 2) (.t 2))) (.o1 .ld1 (.o1 (.fld 2) (.t 3))))), false)] (.c2 (.bin .neq) (.o1 .len (.o1 .ld1 (.o1 (.fld 1) (.t 2)))) (.o1 .len (.o1 .ld1 (.o1 (.fld 1) (.t 3)))))),
    (.chk [] (.c3 .pick (.o3 .pick (.o2 (.bin .neq) (.o1 .ld1 (.o1 (.fld 0) (.t 2))) (.o1 .ld1 (.o1 (.fld 0) (.t 3)))) (.c (.bool true)) (.o2 (.bin .neq) (.o1 .ld1 (.o1 (.fld 2) (.t 2))) (.o1 .ld1 (.o1 (.fld 2) (.t 3))))) (.c (.bool true)) (.o2 (.bin .neq) (.o1 .len (.o1 .ld1 (.o1 (.fld 1) (.t 2)))) (.o1 .len (.o1 .ld1 (.o1 (.fld 1) (.t 3))))))),
    (.set 26 (.o3 .pick (.o3 .pick (.o2 (.bin .neq) (.o1 .ld1 (.o1 (.fld 0) (.t 2))) (.o1 .ld1 (.o1 (.fld 0) (.t 3)))) (.c (.bool true)) (.o2 (.bin .neq) (.o1 .ld1 (.o1 (.fld 2) (.t 2))) (.o1 .ld1 (.o1 (.fld 2) (.t 3))))) (.c (.bool true)) (.o2 (.bin .neq) (.o1 .len (.o1 .ld1 (.o1 (.fld 1) (.t 2)))) (.o1 .len (.o1 .ld1 (.o1 (.fld 1) (.t 3)))))))]) (.cond 26 (.seq (.sts [(.set 4 (.c (.bool false)))]) .ret) .skip)) (.seq (.seq (.sts [(.chk [] (.c1 (.fld 1) (.t 2))),
    (.chk [] (.c1 .ld1 (.o1 (.fld 1) (.t 2)))),
    (.chk [] (.c1 .len (.o1 .ld1 (.o1 (.fld 1) (.t 2))))),
    (.set 29 (.o1 .len (.o1 .ld1 (.o1 (.fld 1) (.t 2))))),
    (.set 30 (.c (.int .i64 0)))]) (.block 0 (.loop plSameAtom_L1))) (.seq (.sts [(.set 4 (.c (.bool true)))]) .ret))))
def plSameAtom_E : Res := [(none, (.t 4))]
theorem plSameAtom_C : Tryz.f18.body.bind (comp Tryz.prog plSameAtom_M Tryz.f18.ntmps) = some plSameAtom_S := by kernel_rfl
theorem plSameAtom_R : resE Tryz.prog plSameAtom_M Tryz.f18.results.toList = some plSameAtom_E := by kernel_rfl
theorem plSameAtom_H (G : Ctr) (hG : GOk Tryz.prog G) (a0 : Value) (a1 : Value) {h : H} {K : Value → H → Prop} {KP : List PanicEntry → H → Prop} (Hw : wpS G plSameAtom_S (retQ plSameAtom_E (callK K KP)) (envOf 0 [a0, a1] env0) h) : HCX Tryz.prog 18 [a0, a1] h K KP :=
  .inl ⟨by kernel_rfl, hc_of mixed hG Tryz.func18 plSameAtom_C plSameAtom_R (of_decide_eq_true (by kernel_rfl)) Hw⟩
def plSameBody_M : Nat → Bool := fun i => Nat.testBit 18734974449861382387 i
def plSameBody_L1 : S :=
  (.seq (.sts [(.chk [] (.c2 (.bin .lss) (.t 15) (.t 14))),
    (.set 16 (.o2 (.bin .lss) (.t 15) (.t 14)))]) (.seq (.cond 16 .skip (.exit 0)) (.seq (.block 1 (.seq (.sts [(.set 5 (.t 15))]) (.seq (.join (.seq (.sts [(.chk [] (.c2 (.idxA 14) (.t 0) (.t 5)))]) (.seq (.sts [(.chk [] (.c1 (.ldn 14) (.o2 (.idxA 14) (.t 0) (.t 5))))]) (.seq (.sts [(.chk [] (.c2 (.idxA 14) (.t 1) (.t 5)))]) (.seq (.sts [(.chk [] (.c1 (.ldn 14) (.o2 (.idxA 14) (.t 1) (.t 5))))]) (.both (.sts [(.set 25 (.o1 (.ldn 14) (.o2 (.idxA 14) (.t 1) (.t 5)))),
    (.set 21 (.o1 (.ldn 14) (.o2 (.idxA 14) (.t 0) (.t 5)))),
    (.eff [] (some 6) (.alloc 55 #[(.int .i64 0), (str []), (.slice none 0 0), (.int .i64 0), (.int .i64 0), (.int .i64 0), (.int .i64 0), (str []), (.int .i64 0), (.int .i64 0), (.int .i64 0), (str []), (.int .i64 0), (.int .i64 0)]) [] [([], ((.o2 (.idxA 14) (.t 1) (.t 5)), (some 14))), ([], ((.o2 (.idxA 14) (.t 0) (.t 5)), (some 14)))]),
    (.eff [] (some 7) (.alloc 55 #[(.int .i64 0), (str []), (.slice none 0 0), (.int .i64 0), (.int .i64 0), (.int .i64 0), (.int .i64 0), (str []), (.int .i64 0), (.int .i64 0), (.int .i64 0), (str []), (.int .i64 0), (.int .i64 0)]) [] [([], ((.o2 (.idxA 14) (.t 1) (.t 5)), (some 14))), ([], ((.o2 (.idxA 14) (.t 0) (.t 5)), (some 14)))]),
    (.eff [] none (.store 14) [(.t 6), (.t 21)] [([], ((.o2 (.idxA 14) (.t 1) (.t 5)), (some 14)))]),
    (.eff [] none (.store 14) [(.t 7), (.t 25)] [])]) (.sts [(.set 25 (.o1 (.ldn 14) (.o2 (.idxA 14) (.t 1) (.t 5)))),
    (.set 21 (.o1 (.ldn 14) (.o2 (.idxA 14) (.t 0) (.t 5)))),
    (.eff [] (some 7) (.alloc 55 #[(.int .i64 0), (str []), (.slice none 0 0), (.int .i64 0), (.int .i64 0), (.int .i64 0), (.int .i64 0), (str []), (.int .i64 0), (.int .i64 0), (.int .i64 0), (str []), (.int .i64 0), (.int .i64 0)]) [] [([], ((.o2 (.idxA 14) (.t 1) (.t 5)), (some 14))), ([], ((.o2 (.idxA 14) (.t 0) (.t 5)), (some 14)))]),
    (.eff [] (some 6) (.alloc 55 #[(.int .i64 0), (str []), (.slice none 0 0), (.int .i64 0), (.int .i64 0), (.int .i64 0), (.int .i64 0), (str []), (.int .i64 0), (.int .i64 0), (.int .i64 0), (str []), (.int .i64 0), (.int .i64 0)]) [] [([], ((.o2 (.idxA 14) (.t 1) (.t 5)), (some 14))), ([], ((.o2 (.idxA 14) (.t 0) (.t 5)), (some 14)))]),
    (.eff [] none (.store 14) [(.t 6), (.t 21)] [([], ((.o2 (.idxA 14) (.t 1) (.t 5)), (some 14)))]),
    (.eff [] none (.store 14) [(.t 7), (.t 25)] [])]))))))) (.seq (.seq (.sts [(.chk [] (.c1 (.fld 0) (.t 6))),
    (.chk [] (.c1 .ld1 (.o1 (.fld 0) (.t 6)))),
    (.chk [] (.c1 (.fld 0) (.t 7))),
    (.chk [] (.c1 .ld1 (.o1 (.fld 0) (.t 7)))),
    (.chk [] (.c2 (.bin .neq) (.o1 .ld1 (.o1 (.fld 0) (.t 6))) (.o1 .ld1 (.o1 (.fld 0) (.t 7))))),
    (.chk [((.o2 (.bin .neq) (.o1 .ld1 (.o1 (.fld 0) (.t 6))) (.o1 .ld1 (.o1 (.fld 0) (.t 7)))), false)] (.c1 (.fld 4) (.t 6))),
    (.chk [((.o2 (.bin .neq) (.o1 .ld1 (.o1 (.fld 0) (.t 6))) (.o1 .ld1 (.o1 (.fld 0) (.t 7)))), false)] (.c1 .ld1 (.o1 (.fld 4) (.t 6)))),
    (.chk [((.o2 (.bin .neq) (.o1 .ld1 (.o1 (.fld 0) (.t 6))) (.o1 .ld1 (.o1 (.fld 0) (.t 7)))), false)] (.c1 (.fld 4) (.t 7))),
    (.chk [((.o2 (.bin .neq) (.o1 .ld1 (.o1 (.fld 0) (.t 6))) (.o1 .ld1 (.o1 (.fld 0) (.t 7)))), false)] (.c1 .ld1 (.o1 (.fld 4) (.t 7)))),
    (.chk [((.o2 (.bin .neq) (.o1 .ld1 (.o1 (.fld 0) (.t 6))) (.o1 .ld1 (.o1 (.fld 0) (.t 7)))), false)] (.c2 (.bin .neq) (.o1 .ld1 (.o1 (.fld 4) (.t 6))) (.o1 .ld1 (.o1 (.fld 4) (.t 7))))),
    (.chk [] (.c3 .pick (.o2 (.bin .neq) (.o1 .ld1 (.o1 (.fld 0) (.t 6))) (.o1 .ld1 (.o1 (.fld 0) (.t 7)))) (.c (.bool true)) (.o2 (.bin .neq) (.o1 .ld1 (.o1 (.fld 4) (.t 6))) (.o1 .ld1 (.o1 (.fld 4) (.t 7)))))),
    (.chk [((.o3 .pick (.o2 (.bin .neq) (.o1 .ld1 (.o1 (.fld 0) (.t 6))) (.o1 .ld1 (.o1 (.fld 0) (.t 7)))) (.c (.bool true)) (.o2 (.bin .neq) (.o1 .ld1 (.o1 (.fld 4) (.t 6))) (.o1 .ld1 (.o1 (.fld 4) (.t 7))))), false)] (.c1 (.fld 13) (.t 6))),
    (.chk [((.o3 .pick (.o2 (.bin .neq) (.o1 .ld1 (.o1 (.fld 0) (.t 6))) (.o1 .ld1 (.o1 (.fld 0) (.t 7)))) (.c (.bool true)) (.o2 (.bin .neq) (.o1 .ld1 (.o1 (.fld 4) (.t 6))) (.o1 .ld1 (.o1 (.fld 4) (.t 7))))), false)] (.c1 .ld1 (.o1 (.fld 13) (.t 6)))),
    (.chk [((.o3 .pick (.o2 (.bin .neq) (.o1 .ld1 (.o1 (.fld 0) (.t 6))) (.o1 .ld1 (.o1 (.fld 0) (.t 7)))) (.c (.bool true)) (.o2 (.bin .neq) (.o1 .ld1 (.o1 (.fld 4) (.t 6))) (.o1 .ld1 (.o1 (.fld 4) (.t 7))))), false)] (.c1 (.fld 13) (.t 7))),
    (.chk [((.o3 .pick (.o2 (.bin .neq) (.o1 .ld1 (.o1 (.fld 0) (.t 6))) (.o1 .ld1 (.o1 (.fld 0) (.t 7)))) (.c (.bool true)) (.o2 (.bin .neq) (.o1 .ld1 (.o1 (.fld 4) (.t 6))) (.o1 .ld1 (.o1 (.fld 4) (.t 7))))), false)] (.c1 .ld1 (.o1 (.fld 13) (.t 7)))),
    (.chk [((.o3 .pick (.o2 (.bin .neq) (.o1 .ld1 (.o1 (.fld 0) (.t 6))) (.o1 .ld1 (.o1 (.fld 0) (.t 7)))) (.c (.bool true)) (.o2 (.bin .neq) (.o1 .ld1 (.o1 (.fld 4) (.t 6))) (.o1 .ld1 (.o1 (.fld 4) (.t 7))))), false)] (.c2 (.bin .neq) (.o1 .ld1 (.o1 (.fld 13) (.t 6))) (.o1 .ld1 (.o1 (.fld 13) (.t 7))))),
    (.chk [] (.c3 .pick (.o3 .pick (.o2 (.bin .neq) (.o1 .ld1 (.o1 (.fld 0) (.t 6))) (.o1 .ld1 (.o1 (.fld 0) (.t 7)))) (.c (.bool true)) (.o2 (.bin .neq) (.o1 .ld1 (.o1 (.fld 4) (.t 6))) (.o1 .ld1 (.o1 (.fld 4) (.t 7))))) (.c (.bool true)) (.o2 (.bin .neq) (.o1 .ld1 (.o1 (.fld 13) (.t 6))) (.o1 .ld1 (.o1 (.fld 13) (.t 7)))))),
    (.chk [((.o3 .pick (.o3 .pick (.o2 (.bin .neq) (.o1 .ld1 (.o1 (.fld 0) (.t 6))) (.o1 .ld1 (.o1 (.fld 0) (.t 7)))) (.c (.bool true)) (.o2 (.bin .neq) (.o1 .ld1 (.o1 (.fld 4) (.t 6))) (.o1 .ld1 (.o1 (.fld 4) (.t 7))))) (.c (.bool true)) (.o2 (.bin .neq) (.o1 .ld1 (.o1 (.fld 13) (.t 6))) (.o1 .ld1 (.o1 (.fld 13) (.t 7))))), false)] (.c1 (.fld 5) (.t 6))),
    (.chk [((.o3 .pick (.o3 .pick (.o2 (.bin .neq) (.o1 .ld1 (.o1 (.fld 0) (.t 6))) (.o1 .ld1 (.o1 (.fld 0) (.t 7)))) (.c (.bool true)) (.o2 (.bin .neq) (.o1 .ld1 (.o1 (.fld 4) (.t 6))) (.o1 .ld1 (.o1 (.fld 4) (.t 7))))) (.c (.bool true)) (.o2 (.bin .neq) (.o1 .ld1 (.o1 (.fld 13) (.t 6))) (.o1 .ld1 (.o1 (.fld 13) (.t 7))))), false)] (.c1 (.ldn 4) (.o1 (.fld 5) (.t 6)))),
    (.chk [((.o3 .pick (.o3 .pick (.o2 (.bin .neq) (.o1 .ld1 (.o1 (.fld 0) (.t 6))) (.o1 .ld1 (.o1 (.fld 0) (.t 7)))) (.c (.bool true)) (.o2 (.bin .neq) (.o1 .ld1 (.o1 (.fld 4) (.t 6))) (.o1 .ld1 (.o1 (.fld 4) (.t 7))))) (.c (.bool true)) (.o2 (.bin .neq) (.o1 .ld1 (.o1 (.fld 13) (.t 6))) (.o1 .ld1 (.o1 (.fld 13) (.t 7))))), false)] (.c1 (.fld 5) (.t 7))),
    (.chk [((.o3 .pick (.o3 .pick (.o2 (.bin .neq) (.o1 .ld1 (.o1 (.fld 0) (.t 6))) (.o1 .ld1 (.o1 (.fld 0) (.t 7)))) (.c (.bool true)) (.o2 (.bin .neq) (.o1 .ld1 (.o1 (.fld 4) (.t 6))) (.o1 .ld1 (.o1 (.fld 4) (.t 7))))) (.c (.bool true)) (.o2 (.bin .neq) (.o1 .ld1 (.o1 (.fld 13) (.t 6))) (.o1 .ld1 (.o1 (.fld 13) (.t 7))))), false)] (.c1 (.ldn 4) (.o1 (.fld 5) (.t 7)))),
    (.chk [((.o3 .pick (.o3 .pick (.o2 (.bin .neq) (.o1 .ld1 (.o1 (.fld 0) (.t 6))) (.o1 .ld1 (.o1 (.fld 0) (.t 7)))) (.c (.bool true)) (.o2 (.bin .neq) (.o1 .ld1 (.o1 (.fld 4) (.t 6))) (.o1 .ld1 (.o1 (.fld 4) (.t 7))))) (.c (.bool true)) (.o2 (.bin .neq) (.o1 .ld1 (.o1 (.fld 13) (.t 6))) (.o1 .ld1 (.o1 (.fld 13) (.t 7))))), false)] (.c2 (.eqs true [(.int .i64), (.int .i64), .str, (.int .i64)]) (.o1 (.ldn 4) (.o1 (.fld 5) (.t 6))) (.o1 (.ldn 4) (.o1 (.fld 5) (.t 7))))),
    (.chk [] (.c3 .pick (.o3 .pick (.o3 .pick (.o2 (.bin .neq) (.o1 .ld1 (.o1 (.fld 0) (.t 6))) (.o1 .ld1 (.o1 (.fld 0) (.t 7)))) (.c (.bool true)) (.o2 (.bin .neq) (.o1 .ld1 (.o1 (.fld 4) (.t 6))) (.o1 .ld1 (.o1 (.fld 4) (.t 7))))) (.c (.bool true)) (.o2 (.bin .neq) (.o1 .ld1 (.o1 (.fld 13) (.t 6))) (.o1 .ld1 (.o1 (.fld 13) (.t 7))))) (.c (.bool true)) (.o2 (.eqs true [(.int .i64), (.int .i64), .str, (.int .i64)]) (.o1 (.ldn 4) (.o1 (.fld 5) (.t 6))) (.o1 (.ldn 4) (.o1 (.fld 5) (.t 7)))))),
    (.chk [((.o3 .pick (.o3 .pick (.o3 .pick (.o2 (.bin .neq) (.o1 .ld1 (.o1 (.fld 0) (.t 6))) (.o1 .ld1 (.o1 (.fld 0) (.t 7)))) (.c (.bool true)) (.o2 (.bin .neq) (.o1 .ld1 (.o1 (.fld 4) (.t 6))) (.o1 .ld1 (.o1 (.fld 4) (.t 7))))) (.c (.bool true)) (.o2 (.bin .neq) (.o1 .ld1 (.o1 (.fld 13) (.t 6))) (.o1 .ld1 (.o1 (.fld 13) (.t 7))))) (.c (.bool true)) (.o2 (.eqs true [(.int .i64), (.int .i64), .str, (.int .i64)]) (.o1 (.ldn 4) (.o1 (.fld 5) (.t 6))) (.o1 (.ldn 4) (.o1 (.fld 5) (.t 7))))), false)] (.c1 (.fld 9) (.t 6))),
    (.chk [((.o3 .pick (.o3 .pick (.o3 .pick (.o2 (.bin .neq) (.o1 .ld1 (.o1 (.fld 0) (.t 6))) (.o1 .ld1 (.o1 (.fld 0) (.t 7)))) (.c (.bool true)) (.o2 (.bin .neq) (.o1 .ld1 (.o1 (.fld 4) (.t 6))) (.o1 .ld1 (.o1 (.fld 4) (.t 7))))) (.c (.bool true)) (.o2 (.bin .neq) (.o1 .ld1 (.o1 (.fld 13) (.t 6))) (.o1 .ld1 (.o1 (.fld 13) (.t 7))))) (.c (.bool true)) (.o2 (.eqs true [(.int .i64), (.int .i64), .str, (.int .i64)]) (.o1 (.ldn 4) (.o1 (.fld 5) (.t 6))) (.o1 (.ldn 4) (.o1 (.fld 5) (.t 7))))), false)] (.c1 (.ldn 4) (.o1 (.fld 9) (.t 6)))),
    (.chk [((.o3 .pick (.o3 .pick (.o3 .pick (.o2 (.bin .neq) (.o1 .ld1 (.o1 (.fld 0) (.t 6))) (.o1 .ld1 (.o1 (.fld 0) (.t 7)))) (.c (.bool true)) (.o2 (.bin .neq) (.o1 .ld1 (.o1 (.fld 4) (.t 6))) (.o1 .ld1 (.o1 (.fld 4) (.t 7))))) (.c (.bool true)) (.o2 (.bin .neq) (.o1 .ld1 (.o1 (.fld 13) (.t 6))) (.o1 .ld1 (.o1 (.fld 13) (.t 7))))) (.c (.bool true)) (.o2 (.eqs true [(.int .i64), (.int .i64), .str, (.int .i64)]) (.o1 (.ldn 4) (.o1 (.fld 5) (.t 6))) (.o1 (.ldn 4) (.o1 (.fld 5) (.t 7))))), false)] (.c1 (.fld 9) (.t 7))),
    (.chk [((.o3 .pick (.o3 .pick (.o3 .pick (.o2 (.bin .neq) (.o1 .ld1 (.o1 (.fld 0) (.t 6))) (.o1 .ld1 (.o1 (.fld 0) (.t 7)))) (.c (.bool true)) (.o2 (.bin .neq) (.o1 .ld1 (.o1 (.fld 4) (.t 6))) (.o1 .ld1 (.o1 (.fld 4) (.t 7))))) (.c (.bool true)) (.o2 (.bin .neq) (.o1 .ld1 (.o1 (.fld 13) (.t 6))) (.o1 .ld1 (.o1 (.fld 13) (.t 7))))) (.c (.bool true)) (.o2 (.eqs true [(.int .i64), (.int .i64), .str, (.int .i64)]) (.o1 (.ldn 4) (.o1 (.fld 5) (.t 6))) (.o1 (.ldn 4) (.o1 (.fld 5) (.t 7))))), false)] (.c1 (.ldn 4) (.o1 (.fld 9) (.t 7)))),
    (.chk [((.o3 .pick (.o3 .pick (.o3 .pick (.o2 (.bin .neq) (.o1 .ld1 (.o1 (.fld 0) (.t 6))) (.o1 .ld1 (.o1 (.fld 0) (.t 7)))) (.c (.bool true)) (.o2 (.bin .neq) (.o1 .ld1 (.o1 (.fld 4) (.t 6))) (.o1 .ld1 (.o1 (.fld 4) (.t 7))))) (.c (.bool true)) (.o2 (.bin .neq) (.o1 .ld1 (.o1 (.fld 13) (.t 6))) (.o1 .ld1 (.o1 (.fld 13) (.t 7))))) (.c (.bool true)) (.o2 (.eqs true [(.int .i64), (.int .i64), .str, (.int .i64)]) (.o1 (.ldn 4) (.o1 (.fld 5) (.t 6))) (.o1 (.ldn 4) (.o1 (.fld 5) (.t 7))))), false)] (.c2 (.eqs true [(.int .i64), (.int .i64), .str, (.int .i64)]) (.o1 (.ldn 4) (.o1 (.fld 9) (.t 6))) (.o1 (.ldn 4) (.o1 (.fld 9) (.t 7))))),
    (.chk [] (.c3 .pick (.o3 .pick (.o3 .pick (.o3 .pick (.o2 (.bin .neq) (.o1 .ld1 (.o1 (.fld 0) (.t 6))) (.o1 .ld1 (.o1 (.fld 0) (.t 7)))) (.c (.bool true)) (.o2 (.bin .neq) (.o1 .ld1 (.o1 (.fld 4) (.t 6))) (.o1 .ld1 (.o1 (.fld 4) (.t 7))))) (.c (.bool true)) (.o2 (.bin .neq) (.o1 .ld1 (.o1 (.fld 13) (.t 6))) (.o1 .ld1 (.o1 (.fld 13) (.t 7))))) (.c (.bool true)) (.o2 (.eqs true [(.int .i64), (.int .i64), .str, (.int .i64)]) (.o1 (.ldn 4) (.o1 (.fld 5) (.t 6))) (.o1 (.ldn 4) (.o1 (.fld 5) (.t 7))))) (.c (.bool true)) (.o2 (.eqs true [(.int .i64), (.int .i64), .str, (.int .i64)]) (.o1 (.ldn 4) (.o1 (.fld 9) (.t 6))) (.o1 (.ldn 4) (.o1 (.fld 9) (.t 7)))))),
    (.set 58 (.o3 .pick (.o3 .pick (.o3 .pick (.o3 .pick (.o2 (.bin .neq) (.o1 .ld1 (.o1 (.fld 0) (.t 6))) (.o1 .ld1 (.o1 (.fld 0) (.t 7)))) (.c (.bool true)) (.o2 (.bin .neq) (.o1 .ld1 (.o1 (.fld 4) (.t 6))) (.o1 .ld1 (.o1 (.fld 4) (.t 7))))) (.c (.bool true)) (.o2 (.bin .neq) (.o1 .ld1 (.o1 (.fld 13) (.t 6))) (.o1 .ld1 (.o1 (.fld 13) (.t 7))))) (.c (.bool true)) (.o2 (.eqs true [(.int .i64), (.int .i64), .str, (.int .i64)]) (.o1 (.ldn 4) (.o1 (.fld 5) (.t 6))) (.o1 (.ldn 4) (.o1 (.fld 5) (.t 7))))) (.c (.bool true)) (.o2 (.eqs true [(.int .i64), (.int .i64), .str, (.int .i64)]) (.o1 (.ldn 4) (.o1 (.fld 9) (.t 6))) (.o1 (.ldn 4) (.o1 (.fld 9) (.t 7))))))]) (.cond 58 (.seq (.sts [(.set 4 (.c (.bool false)))]) .ret) .skip)) (.seq (.sts [(.chk [] (.c1 (.fld 1) (.t 6))),
    (.chk [] (.c1 (.ldn 3) (.o1 (.fld 1) (.t 6)))),
    (.chk [] (.c1 (.fld 1) (.t 7))),
    (.chk [] (.c1 (.ldn 3) (.o1 (.fld 1) (.t 7)))),
    (.set 62 (.o1 (.ldn 3) (.o1 (.fld 1) (.t 7)))),
    (.set 60 (.o1 (.ldn 3) (.o1 (.fld 1) (.t 6)))),
    (.eff [] (some 63) (.call 18) [(.t 60), (.t 62)] []),
    (.chk [] (.c1 .not (.t 63))),
    (.set 64 (.o1 .not (.t 63)))]) (.cond 64 (.seq (.sts [(.set 4 (.c (.bool false)))]) .ret) .skip)))))) (.sts [(.chk [] (.c2 (.bin .add) (.t 15) (.c (.int .i64 1)))),
    (.set 65 (.o2 (.bin .add) (.t 15) (.c (.int .i64 1)))),
    (.set 15 (.t 65))]))))
def plSameBody_S : S :=
  (.seq (.sts [(.set 4 (.c (.bool false)))]) (.seq (.seq (.sts [(.chk [] (.c1 .len (.t 0))),
    (.chk [] (.c1 .len (.t 1))),
    (.chk [] (.c2 (.bin .neq) (.o1 .len (.t 0)) (.o1 .len (.t 1)))),
    (.set 12 (.o2 (.bin .neq) (.o1 .len (.t 0)) (.o1 .len (.t 1))))]) (.cond 12 (.seq (.sts [(.set 4 (.c (.bool false)))]) .ret) .skip)) (.seq (.seq (.sts [(.chk [] (.c1 .len (.t 0))),
    (.set 14 (.o1 .len (.t 0))),
    (.set 15 (.c (.int .i64 0)))]) (.block 0 (.loop plSameBody_L1))) (.seq (.sts [(.set 4 (.c (.bool true)))]) .ret))))
def plSameBody_E : Res := [(none, (.t 4))]
theorem plSameBody_C : Tryz.f7.body.bind (comp Tryz.prog plSameBody_M Tryz.f7.ntmps) = some plSameBody_S := by kernel_rfl
theorem plSameBody_R : resE Tryz.prog plSameBody_M Tryz.f7.results.toList = some plSameBody_E := by kernel_rfl
theorem plSameBody_H (G : Ctr) (hG : GOk Tryz.prog G) (a0 : Value) (a1 : Value) {h : H} {K : Value → H → Prop} {KP : List PanicEntry → H → Prop} (Hw : wpS G plSameBody_S (retQ plSameBody_E (callK K KP)) (envOf 0 [a0, a1] env0) h) : HCX Tryz.prog 7 [a0, a1] h K KP :=
  .inl ⟨by kernel_rfl, hc_of mixed hG Tryz.func7 plSameBody_C plSameBody_R (of_decide_eq_true (by kernel_rfl)) Hw⟩
def plSameClauses_M : Nat → Bool := fun i => Nat.testBit 2199023285299 i
def plSameClauses_L1 : S :=
  (.seq (.sts [(.chk [] (.c2 (.bin .lss) (.t 13) (.t 12))),
    (.set 14 (.o2 (.bin .lss) (.t 13) (.t 12)))]) (.seq (.cond 14 .skip (.exit 0)) (.seq (.block 1 (.seq (.sts [(.set 5 (.t 13))]) (.seq (.sts [(.chk [] (.c2 (.idxA 4) (.t 0) (.t 5))),
    (.chk [] (.c1 (.fld 0) (.o2 (.idxA 4) (.t 0) (.t 5)))),
    (.chk [] (.c1 (.ldn 3) (.o1 (.fld 0) (.o2 (.idxA 4) (.t 0) (.t 5))))),
    (.chk [] (.c2 (.idxA 4) (.t 1) (.t 5))),
    (.chk [] (.c1 (.fld 0) (.o2 (.idxA 4) (.t 1) (.t 5)))),
    (.chk [] (.c1 (.ldn 3) (.o1 (.fld 0) (.o2 (.idxA 4) (.t 1) (.t 5))))),
    (.set 25 (.o1 (.ldn 3) (.o1 (.fld 0) (.o2 (.idxA 4) (.t 1) (.t 5))))),
    (.set 20 (.o1 (.ldn 3) (.o1 (.fld 0) (.o2 (.idxA 4) (.t 0) (.t 5))))),
    (.eff [] (some 26) (.call 18) [(.t 20), (.t 25)] []),
    (.chk [] (.c1 .not (.t 26))),
    (.chk [((.o1 .not (.t 26)), false)] (.c2 (.idxA 4) (.t 0) (.t 5))),
    (.chk [((.o1 .not (.t 26)), false)] (.c1 (.fld 3) (.o2 (.idxA 4) (.t 0) (.t 5)))),
    (.chk [((.o1 .not (.t 26)), false)] (.c1 .ld1 (.o1 (.fld 3) (.o2 (.idxA 4) (.t 0) (.t 5))))),
    (.chk [((.o1 .not (.t 26)), false)] (.c2 (.idxA 4) (.t 1) (.t 5))),
    (.chk [((.o1 .not (.t 26)), false)] (.c1 (.fld 3) (.o2 (.idxA 4) (.t 1) (.t 5)))),
    (.chk [((.o1 .not (.t 26)), false)] (.c1 .ld1 (.o1 (.fld 3) (.o2 (.idxA 4) (.t 1) (.t 5))))),
    (.set 38 (.o1 .ld1 (.o1 (.fld 3) (.o2 (.idxA 4) (.t 1) (.t 5))))),
    (.set 33 (.o1 .ld1 (.o1 (.fld 3) (.o2 (.idxA 4) (.t 0) (.t 5))))),
    (.eff [((.o1 .not (.t 26)), false)] (some 39) (.call 7) [(.t 33), (.t 38)] []),
    (.chk [((.o1 .not (.t 26)), false)] (.c1 .not (.t 39))),
    (.chk [] (.c3 .pick (.o1 .not (.t 26)) (.c (.bool true)) (.o1 .not (.t 39)))),
    (.set 41 (.o3 .pick (.o1 .not (.t 26)) (.c (.bool true)) (.o1 .not (.t 39))))]) (.cond 41 (.seq (.sts [(.set 4 (.c (.bool false)))]) .ret) .skip)))) (.sts [(.chk [] (.c2 (.bin .add) (.t 13) (.c (.int .i64 1)))),
    (.set 42 (.o2 (.bin .add) (.t 13) (.c (.int .i64 1)))),
    (.set 13 (.t 42))]))))
def plSameClauses_S : S :=
  (.seq (.sts [(.set 4 (.c (.bool false)))]) (.seq (.seq (.sts [(.chk [] (.c1 .len (.t 0))),
    (.chk [] (.c1 .len (.t 1))),
    (.chk [] (.c2 (.bin .neq) (.o1 .len (.t 0)) (.o1 .len (.t 1)))),
    (.set 10 (.o2 (.bin .neq) (.o1 .len (.t 0)) (.o1 .len (.t 1))))]) (.cond 10 (.seq (.sts [(.set 4 (.c (.bool false)))]) .ret) .skip)) (.seq (.seq (.sts [(.chk [] (.c1 .len (.t 0))),
    (.set 12 (.o1 .len (.t 0))),
    (.set 13 (.c (.int .i64 0)))]) (.block 0 (.loop plSameClauses_L1))) (.seq (.sts [(.set 4 (.c (.bool true)))]) .ret))))
def plSameClauses_E : Res := [(none, (.t 4))]
theorem plSameClauses_C : Tryz.f10.body.bind (comp Tryz.prog plSameClauses_M Tryz.f10.ntmps) = some plSameClauses_S := by kernel_rfl
theorem plSameClauses_R : resE Tryz.prog plSameClauses_M Tryz.f10.results.toList = some plSameClauses_E := by kernel_rfl
theorem plSameClauses_H (G : Ctr) (hG : GOk Tryz.prog G) (a0 : Value) (a1 : Value) {h : H} {K : Value → H → Prop} {KP : List PanicEntry → H → Prop} (Hw : wpS G plSameClauses_S (retQ plSameClauses_E (callK K KP)) (envOf 0 [a0, a1] env0) h) : HCX Tryz.prog 10 [a0, a1] h K KP :=
  .inl ⟨by kernel_rfl, hc_of mixed hG Tryz.func10 plSameClauses_C plSameClauses_R (of_decide_eq_true (by kernel_rfl)) Hw⟩
def ParseQueries_M : Nat → Bool := fun i => Nat.testBit 125 i
def ParseQueries_S : S :=
  (.seq (.sts [(.set 2 (.c (.bool false)))]) (.seq (.sts [(.eff [] (some 9) (.call 5) [(.t 0)] []),
    (.chk [] (.c1 (.ext 0) (.t 9))),
    (.chk [] (.c1 (.ext 1) (.t 9))),
    (.eff [] (some 4) (.alloc 25 #[(.int .i64 0), (.int .i64 0), (.int .i64 0)]) [] []),
    (.set 3 (.o1 (.ext 0) (.t 9))),
    (.eff [] none (.store 3) [(.t 4), (.o1 (.ext 1) (.t 9))] [])]) (.seq (.sts [(.eff [] (some 14) (.call 6) [(.t 0)] []),
    (.chk [] (.c1 (.ext 0) (.t 14))),
    (.chk [] (.c1 (.ext 1) (.t 14))),
    (.eff [] (some 6) (.alloc 25 #[(.int .i64 0), (.int .i64 0), (.int .i64 0)]) [] []),
    (.set 5 (.o1 (.ext 0) (.t 14))),
    (.eff [] none (.store 3) [(.t 6), (.o1 (.ext 1) (.t 14))] [])]) (.seq (.sts [(.chk [] (.c1 (.ldn 3) (.t 4))),
    (.chk [] (.c1 (.ldn 3) (.t 6))),
    (.chk [] (.c2 (.eqs false [(.int .i64), (.int .i64), (.int .i64)]) (.o1 (.ldn 3) (.t 4)) (.o1 (.ldn 3) (.t 6)))),
    (.set 20 (.o2 (.eqs false [(.int .i64), (.int .i64), (.int .i64)]) (.o1 (.ldn 3) (.t 4)) (.o1 (.ldn 3) (.t 6)))),
    (.eff [((.t 20), true)] (some 23) (.call 7) [(.t 3), (.t 5)] []),
    (.chk [] (.c3 .pick (.t 20) (.t 23) (.c (.bool false)))),
    (.set 2 (.o3 .pick (.t 20) (.t 23) (.c (.bool false))))]) .ret))))
def ParseQueries_E : Res := [(none, (.t 2))]
theorem ParseQueries_C : Tryz.f3.body.bind (comp Tryz.prog ParseQueries_M Tryz.f3.ntmps) = some ParseQueries_S := by kernel_rfl
theorem ParseQueries_R : resE Tryz.prog ParseQueries_M Tryz.f3.results.toList = some ParseQueries_E := by kernel_rfl
theorem ParseQueries_H (G : Ctr) (hG : GOk Tryz.prog G) (a0 : Value) {h : H} {K : Value → H → Prop} {KP : List PanicEntry → H → Prop} (Hw : wpS G ParseQueries_S (retQ ParseQueries_E (callK K KP)) (envOf 0 [a0] env0) h) : HCX Tryz.prog 3 [a0] h K KP :=
  .inl ⟨by kernel_rfl, hc_of mixed hG Tryz.func3 ParseQueries_C ParseQueries_R (of_decide_eq_true (by kernel_rfl)) Hw⟩
def ParsePrograms_M : Nat → Bool := fun i => Nat.testBit 125 i
def ParsePrograms_S : S :=
  (.seq (.sts [(.set 2 (.c (.bool false)))]) (.seq (.sts [(.eff [] (some 9) (.call 8) [(.t 0)] []),
    (.chk [] (.c1 (.ext 0) (.t 9))),
    (.chk [] (.c1 (.ext 1) (.t 9))),
    (.eff [] (some 3) (.alloc 32 #[(.slice none 0 0)]) [] []),
    (.eff [] (some 4) (.alloc 25 #[(.int .i64 0), (.int .i64 0), (.int .i64 0)]) [] []),
    (.eff [] none (.store 1) [(.t 3), (.o1 (.ext 0) (.t 9))] []),
    (.eff [] none (.store 3) [(.t 4), (.o1 (.ext 1) (.t 9))] [])]) (.seq (.sts [(.eff [] (some 14) (.call 9) [(.t 0)] []),
    (.chk [] (.c1 (.ext 0) (.t 14))),
    (.chk [] (.c1 (.ext 1) (.t 14))),
    (.eff [] (some 5) (.alloc 32 #[(.slice none 0 0)]) [] []),
    (.eff [] (some 6) (.alloc 25 #[(.int .i64 0), (.int .i64 0), (.int .i64 0)]) [] []),
    (.eff [] none (.store 1) [(.t 5), (.o1 (.ext 0) (.t 14))] []),
    (.eff [] none (.store 3) [(.t 6), (.o1 (.ext 1) (.t 14))] [])]) (.seq (.sts [(.chk [] (.c1 (.ldn 3) (.t 4))),
    (.chk [] (.c1 (.ldn 3) (.t 6))),
    (.chk [] (.c2 (.eqs false [(.int .i64), (.int .i64), (.int .i64)]) (.o1 (.ldn 3) (.t 4)) (.o1 (.ldn 3) (.t 6)))),
    (.chk [((.o2 (.eqs false [(.int .i64), (.int .i64), (.int .i64)]) (.o1 (.ldn 3) (.t 4)) (.o1 (.ldn 3) (.t 6))), true)] (.c1 (.fld 0) (.t 3))),
    (.chk [((.o2 (.eqs false [(.int .i64), (.int .i64), (.int .i64)]) (.o1 (.ldn 3) (.t 4)) (.o1 (.ldn 3) (.t 6))), true)] (.c1 .ld1 (.o1 (.fld 0) (.t 3)))),
    (.chk [((.o2 (.eqs false [(.int .i64), (.int .i64), (.int .i64)]) (.o1 (.ldn 3) (.t 4)) (.o1 (.ldn 3) (.t 6))), true)] (.c1 (.fld 0) (.t 5))),
    (.chk [((.o2 (.eqs false [(.int .i64), (.int .i64), (.int .i64)]) (.o1 (.ldn 3) (.t 4)) (.o1 (.ldn 3) (.t 6))), true)] (.c1 .ld1 (.o1 (.fld 0) (.t 5)))),
    (.set 24 (.o1 .ld1 (.o1 (.fld 0) (.t 5)))),
    (.set 22 (.o1 .ld1 (.o1 (.fld 0) (.t 3)))),
    (.set 20 (.o2 (.eqs false [(.int .i64), (.int .i64), (.int .i64)]) (.o1 (.ldn 3) (.t 4)) (.o1 (.ldn 3) (.t 6)))),
    (.eff [((.t 20), true)] (some 25) (.call 10) [(.t 22), (.t 24)] []),
    (.chk [] (.c3 .pick (.t 20) (.t 25) (.c (.bool false)))),
    (.set 2 (.o3 .pick (.t 20) (.t 25) (.c (.bool false))))]) .ret))))
def ParsePrograms_E : Res := [(none, (.t 2))]
theorem ParsePrograms_C : Tryz.f4.body.bind (comp Tryz.prog ParsePrograms_M Tryz.f4.ntmps) = some ParsePrograms_S := by kernel_rfl
theorem ParsePrograms_R : resE Tryz.prog ParsePrograms_M Tryz.f4.results.toList = some ParsePrograms_E := by kernel_rfl
theorem ParsePrograms_H (G : Ctr) (hG : GOk Tryz.prog G) (a0 : Value) {h : H} {K : Value → H → Prop} {KP : List PanicEntry → H → Prop} (Hw : wpS G ParsePrograms_S (retQ ParsePrograms_E (callK K KP)) (envOf 0 [a0] env0) h) : HCX Tryz.prog 4 [a0] h K KP :=
  .inl ⟨by kernel_rfl, hc_of mixed hG Tryz.func4 ParsePrograms_C ParsePrograms_R (of_decide_eq_true (by kernel_rfl)) Hw⟩
end Go.Proofs.YtmnfhmbmifompaaGreatDoor
