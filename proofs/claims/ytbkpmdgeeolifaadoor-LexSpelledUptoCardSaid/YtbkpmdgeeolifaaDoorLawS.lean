/- The small statements of functions of the program, as the closed computation gives them (written by a program of ours; checked by the kernel below). -/
import Derived.Test.YtbkpmdgeeolifaaDoorEvB
import Derived.Test.YtbkpmdgeeolifaaDoorProg
import Derived.KernelRfl
import Derived.Test.YtbkpmdgeeolifaaDoorTokS
namespace Go.Proofs.YtbkpmdgeeolifaaDoor
open Go Go.Ev
def lwSame_M : Nat → Bool := fun i => Nat.testBit 33571891 i
def lwSame_L1 : S :=
  (.seq (.seq (.sts [(.chk [] (.c1 .len (.t 0))),
    (.chk [] (.c2 (.bin .lss) (.t 5) (.o1 .len (.t 0)))),
    (.set 14 (.o2 (.bin .lss) (.t 5) (.o1 .len (.t 0))))]) (.cond 14 .skip (.exit 0))) (.seq (.block 1 (.seq (.sts [(.chk [] (.c2 (.idxA 6) (.t 0) (.t 5))),
    (.chk [] (.c1 (.ldn 6) (.o2 (.idxA 6) (.t 0) (.t 5)))),
    (.chk [] (.c2 (.idxA 6) (.t 1) (.t 5))),
    (.chk [] (.c1 (.ldn 6) (.o2 (.idxA 6) (.t 1) (.t 5)))),
    (.chk [] (.c2 (.eqs true [(.int .i64), .str, (.int .i64), (.int .i64), (.int .i64), (.int .i64)]) (.o1 (.ldn 6) (.o2 (.idxA 6) (.t 0) (.t 5))) (.o1 (.ldn 6) (.o2 (.idxA 6) (.t 1) (.t 5))))),
    (.set 25 (.o2 (.eqs true [(.int .i64), .str, (.int .i64), (.int .i64), (.int .i64), (.int .i64)]) (.o1 (.ldn 6) (.o2 (.idxA 6) (.t 0) (.t 5))) (.o1 (.ldn 6) (.o2 (.idxA 6) (.t 1) (.t 5)))))]) (.cond 25 (.seq (.sts [(.set 4 (.c (.bool false)))]) .ret) .skip))) (.sts [(.chk [] (.c2 (.bin .add) (.t 5) (.c (.int .i64 1)))),
    (.set 16 (.o2 (.bin .add) (.t 5) (.c (.int .i64 1)))),
    (.set 5 (.t 16))])))
def lwSame_S : S :=
  (.seq (.sts [(.set 4 (.c (.bool false)))]) (.seq (.seq (.sts [(.chk [] (.c1 .len (.t 0))),
    (.chk [] (.c1 .len (.t 1))),
    (.chk [] (.c2 (.bin .neq) (.o1 .len (.t 0)) (.o1 .len (.t 1)))),
    (.set 10 (.o2 (.bin .neq) (.o1 .len (.t 0)) (.o1 .len (.t 1))))]) (.cond 10 (.seq (.sts [(.set 4 (.c (.bool false)))]) .ret) .skip)) (.seq (.seq (.sts [(.set 5 (.c (.int .i64 0)))]) (.block 0 (.loop lwSame_L1))) (.seq (.sts [(.set 4 (.c (.bool true)))]) .ret))))
def lwSame_E : Res := [(none, (.t 4))]
theorem lwSame_C : Tryd.f18.body.bind (comp Tryd.prog lwSame_M Tryd.f18.ntmps) = some lwSame_S := by kernel_rfl
theorem lwSame_R : resE Tryd.prog lwSame_M Tryd.f18.results.toList = some lwSame_E := by kernel_rfl
theorem lwSame_H (G : Ctr) (hG : GOk Tryd.prog G) (a0 : Value) (a1 : Value) {h : H} {K : Value → H → Prop} {KP : List PanicEntry → H → Prop} (Hw : wpS G lwSame_S (retQ lwSame_E (callK K KP)) (envOf 0 [a0, a1] env0) h) : HCX Tryd.prog 18 [a0, a1] h K KP :=
  .inl ⟨by kernel_rfl, hc_of mixed hG Tryd.func18 lwSame_C lwSame_R (of_decide_eq_true (by kernel_rfl)) Hw⟩
def lwHead_M : Nat → Bool := fun i => Nat.testBit 37 i
def lwHead_S : S :=
  (.seq (.sts [(.set 2 (.c (str [])))]) (.seq (.seq (.sts [(.chk [] (.c1 .lens (.t 0))),
    (.chk [] (.c2 (.bin .gtr) (.o1 .lens (.t 0)) (.c (.int .i64 65534)))),
    (.set 5 (.o2 (.bin .gtr) (.o1 .lens (.t 0)) (.c (.int .i64 65534))))]) (.cond 5 (.sts [(.chk [] (.c2 .subHi (.t 0) (.c (.int .i64 65534)))),
    (.set 7 (.o2 .subHi (.t 0) (.c (.int .i64 65534)))),
    (.set 0 (.t 7))]) .skip)) (.seq (.sts [(.chk [] (.c2 (.bin .add) (.c (str [97, 32])) (.t 0))),
    (.set 2 (.o2 (.bin .add) (.c (str [97, 32])) (.t 0)))]) .ret)))
def lwHead_E : Res := [(none, (.t 2))]
theorem lwHead_C : Tryd.f22.body.bind (comp Tryd.prog lwHead_M Tryd.f22.ntmps) = some lwHead_S := by kernel_rfl
theorem lwHead_R : resE Tryd.prog lwHead_M Tryd.f22.results.toList = some lwHead_E := by kernel_rfl
theorem lwHead_H (G : Ctr) (hG : GOk Tryd.prog G) (a0 : Value) {h : H} {K : Value → H → Prop} {KP : List PanicEntry → H → Prop} (Hw : wpS G lwHead_S (retQ lwHead_E (callK K KP)) (envOf 0 [a0] env0) h) : HCX Tryd.prog 22 [a0] h K KP :=
  .inl ⟨by kernel_rfl, hc_of mixed hG Tryd.func22 lwHead_C lwHead_R (of_decide_eq_true (by kernel_rfl)) Hw⟩
def lwBegun_M : Nat → Bool := fun i => Nat.testBit 5 i
def lwBegun_S : S :=
  (.seq (.sts [(.set 2 (.c (.bool false)))]) (.seq (.sts [(.chk [] (.c1 .len (.t 0))),
    (.chk [] (.c2 (.bin .gtr) (.o1 .len (.t 0)) (.c (.int .i64 0)))),
    (.chk [((.o2 (.bin .gtr) (.o1 .len (.t 0)) (.c (.int .i64 0))), true)] (.c2 (.idxA 6) (.t 0) (.c (.int .i64 0)))),
    (.chk [((.o2 (.bin .gtr) (.o1 .len (.t 0)) (.c (.int .i64 0))), true)] (.c1 (.ldn 6) (.o2 (.idxA 6) (.t 0) (.c (.int .i64 0))))),
    (.chk [((.o2 (.bin .gtr) (.o1 .len (.t 0)) (.c (.int .i64 0))), true)] (.cb 6 [(0, (1, (.c (.int .i64 1)))), (1, (1, (.c (str [97])))), (4, (1, (.c (.int .i64 0)))), (5, (1, (.c (.int .i64 1))))])),
    (.chk [((.o2 (.bin .gtr) (.o1 .len (.t 0)) (.c (.int .i64 0))), true)] (.c2 (.eqs false [(.int .i64), .str, (.int .i64), (.int .i64), (.int .i64), (.int .i64)]) (.o1 (.ldn 6) (.o2 (.idxA 6) (.t 0) (.c (.int .i64 0)))) (.o2 (.put 5 1) (.o2 (.put 4 1) (.o2 (.put 1 1) (.o2 (.put 0 1) (.c (.agg #[(.int .i64 0), (str []), (.int .i64 0), (.int .i64 0), (.int .i64 0), (.int .i64 0)])) (.c (.int .i64 1))) (.c (str [97]))) (.c (.int .i64 0))) (.c (.int .i64 1))))),
    (.chk [] (.c3 .pick (.o2 (.bin .gtr) (.o1 .len (.t 0)) (.c (.int .i64 0))) (.o2 (.eqs false [(.int .i64), .str, (.int .i64), (.int .i64), (.int .i64), (.int .i64)]) (.o1 (.ldn 6) (.o2 (.idxA 6) (.t 0) (.c (.int .i64 0)))) (.o2 (.put 5 1) (.o2 (.put 4 1) (.o2 (.put 1 1) (.o2 (.put 0 1) (.c (.agg #[(.int .i64 0), (str []), (.int .i64 0), (.int .i64 0), (.int .i64 0), (.int .i64 0)])) (.c (.int .i64 1))) (.c (str [97]))) (.c (.int .i64 0))) (.c (.int .i64 1)))) (.c (.bool false)))),
    (.set 2 (.o3 .pick (.o2 (.bin .gtr) (.o1 .len (.t 0)) (.c (.int .i64 0))) (.o2 (.eqs false [(.int .i64), .str, (.int .i64), (.int .i64), (.int .i64), (.int .i64)]) (.o1 (.ldn 6) (.o2 (.idxA 6) (.t 0) (.c (.int .i64 0)))) (.o2 (.put 5 1) (.o2 (.put 4 1) (.o2 (.put 1 1) (.o2 (.put 0 1) (.c (.agg #[(.int .i64 0), (str []), (.int .i64 0), (.int .i64 0), (.int .i64 0), (.int .i64 0)])) (.c (.int .i64 1))) (.c (str [97]))) (.c (.int .i64 0))) (.c (.int .i64 1)))) (.c (.bool false))))]) .ret))
def lwBegun_E : Res := [(none, (.t 2))]
theorem lwBegun_C : Tryd.f23.body.bind (comp Tryd.prog lwBegun_M Tryd.f23.ntmps) = some lwBegun_S := by kernel_rfl
theorem lwBegun_R : resE Tryd.prog lwBegun_M Tryd.f23.results.toList = some lwBegun_E := by kernel_rfl
theorem lwBegun_H (G : Ctr) (hG : GOk Tryd.prog G) (a0 : Value) {h : H} {K : Value → H → Prop} {KP : List PanicEntry → H → Prop} (Hw : wpS G lwBegun_S (retQ lwBegun_E (callK K KP)) (envOf 0 [a0] env0) h) : HCX Tryd.prog 23 [a0] h K KP :=
  .inl ⟨by kernel_rfl, hc_of mixed hG Tryd.func23 lwBegun_C lwBegun_R (of_decide_eq_true (by kernel_rfl)) Hw⟩
def lwEnded_M : Nat → Bool := fun i => Nat.testBit 269517015 i
def lwEnded_L1 : S :=
  (.seq (.seq (.sts [(.chk [] (.c2 (.bin .add) (.t 7) (.c (.int .i64 1)))),
    (.chk [] (.c1 .len (.t 0))),
    (.chk [] (.c2 (.bin .lss) (.o2 (.bin .add) (.t 7) (.c (.int .i64 1))) (.o1 .len (.t 0)))),
    (.set 20 (.o2 (.bin .lss) (.o2 (.bin .add) (.t 7) (.c (.int .i64 1))) (.o1 .len (.t 0))))]) (.cond 20 .skip (.exit 0))) (.seq (.block 1 (.seq (.sts [(.chk [] (.c2 (.idxA 6) (.t 0) (.t 7))),
    (.chk [] (.c1 (.fld 0) (.o2 (.idxA 6) (.t 0) (.t 7)))),
    (.chk [] (.c1 .ld1 (.o1 (.fld 0) (.o2 (.idxA 6) (.t 0) (.t 7))))),
    (.chk [] (.c2 (.bin .eql) (.o1 .ld1 (.o1 (.fld 0) (.o2 (.idxA 6) (.t 0) (.t 7)))) (.c (.int .i64 0)))),
    (.set 28 (.o2 (.bin .eql) (.o1 .ld1 (.o1 (.fld 0) (.o2 (.idxA 6) (.t 0) (.t 7)))) (.c (.int .i64 0))))]) (.cond 28 (.seq (.sts [(.set 6 (.c (.bool false)))]) .ret) .skip))) (.sts [(.chk [] (.c2 (.bin .add) (.t 7) (.c (.int .i64 1)))),
    (.set 22 (.o2 (.bin .add) (.t 7) (.c (.int .i64 1)))),
    (.set 7 (.t 22))])))
def lwEnded_S : S :=
  (.seq (.sts [(.eff [] (some 4) (.box 25) [(.t 1)] []),
    (.set 6 (.c (.bool false)))]) (.seq (.seq (.sts [(.chk [] (.c1 (.ldn 3) (.t 4))),
    (.chk [] (.cb 3 [])),
    (.chk [] (.c2 (.eqs true [(.int .i64), (.int .i64), (.int .i64)]) (.o1 (.ldn 3) (.t 4)) (.c (.agg #[(.int .i64 0), (.int .i64 0), (.int .i64 0)])))),
    (.chk [((.o2 (.eqs true [(.int .i64), (.int .i64), (.int .i64)]) (.o1 (.ldn 3) (.t 4)) (.c (.agg #[(.int .i64 0), (.int .i64 0), (.int .i64 0)]))), false)] (.c1 .len (.t 0))),
    (.chk [((.o2 (.eqs true [(.int .i64), (.int .i64), (.int .i64)]) (.o1 (.ldn 3) (.t 4)) (.c (.agg #[(.int .i64 0), (.int .i64 0), (.int .i64 0)]))), false)] (.c2 (.bin .eql) (.o1 .len (.t 0)) (.c (.int .i64 0)))),
    (.chk [] (.c3 .pick (.o2 (.eqs true [(.int .i64), (.int .i64), (.int .i64)]) (.o1 (.ldn 3) (.t 4)) (.c (.agg #[(.int .i64 0), (.int .i64 0), (.int .i64 0)]))) (.c (.bool true)) (.o2 (.bin .eql) (.o1 .len (.t 0)) (.c (.int .i64 0))))),
    (.set 15 (.o3 .pick (.o2 (.eqs true [(.int .i64), (.int .i64), (.int .i64)]) (.o1 (.ldn 3) (.t 4)) (.c (.agg #[(.int .i64 0), (.int .i64 0), (.int .i64 0)]))) (.c (.bool true)) (.o2 (.bin .eql) (.o1 .len (.t 0)) (.c (.int .i64 0)))))]) (.cond 15 (.seq (.sts [(.set 6 (.c (.bool false)))]) .ret) .skip)) (.seq (.seq (.sts [(.set 7 (.c (.int .i64 0)))]) (.block 0 (.loop lwEnded_L1))) (.seq (.sts [(.chk [] (.c1 .len (.t 0))),
    (.chk [] (.c2 (.bin .sub) (.o1 .len (.t 0)) (.c (.int .i64 1)))),
    (.chk [] (.c2 (.idxA 6) (.t 0) (.o2 (.bin .sub) (.o1 .len (.t 0)) (.c (.int .i64 1))))),
    (.chk [] (.c1 (.ldn 6) (.o2 (.idxA 6) (.t 0) (.o2 (.bin .sub) (.o1 .len (.t 0)) (.c (.int .i64 1)))))),
    (.chk [] (.cb 6 [(0, (1, (.c (.int .i64 0)))), (4, (1, (.t 2))), (5, (1, (.t 2)))])),
    (.chk [] (.c2 (.eqs false [(.int .i64), .str, (.int .i64), (.int .i64), (.int .i64), (.int .i64)]) (.o1 (.ldn 6) (.o2 (.idxA 6) (.t 0) (.o2 (.bin .sub) (.o1 .len (.t 0)) (.c (.int .i64 1))))) (.o2 (.put 5 1) (.o2 (.put 4 1) (.o2 (.put 0 1) (.c (.agg #[(.int .i64 0), (str []), (.int .i64 0), (.int .i64 0), (.int .i64 0), (.int .i64 0)])) (.c (.int .i64 0))) (.t 2)) (.t 2)))),
    (.set 6 (.o2 (.eqs false [(.int .i64), .str, (.int .i64), (.int .i64), (.int .i64), (.int .i64)]) (.o1 (.ldn 6) (.o2 (.idxA 6) (.t 0) (.o2 (.bin .sub) (.o1 .len (.t 0)) (.c (.int .i64 1))))) (.o2 (.put 5 1) (.o2 (.put 4 1) (.o2 (.put 0 1) (.c (.agg #[(.int .i64 0), (str []), (.int .i64 0), (.int .i64 0), (.int .i64 0), (.int .i64 0)])) (.c (.int .i64 0))) (.t 2)) (.t 2))))]) .ret))))
def lwEnded_E : Res := [(none, (.t 6))]
theorem lwEnded_C : Tryd.f24.body.bind (comp Tryd.prog lwEnded_M Tryd.f24.ntmps) = some lwEnded_S := by kernel_rfl
theorem lwEnded_R : resE Tryd.prog lwEnded_M Tryd.f24.results.toList = some lwEnded_E := by kernel_rfl
theorem lwEnded_H (G : Ctr) (hG : GOk Tryd.prog G) (a0 : Value) (a1 : Value) (a2 : Value) {h : H} {K : Value → H → Prop} {KP : List PanicEntry → H → Prop} (Hw : wpS G lwEnded_S (retQ lwEnded_E (callK K KP)) (envOf 0 [a0, a1, a2] env0) h) : HCX Tryd.prog 24 [a0, a1, a2] h K KP :=
  .inl ⟨by kernel_rfl, hc_of mixed hG Tryd.func24 lwEnded_C lwEnded_R (of_decide_eq_true (by kernel_rfl)) Hw⟩
def lwMoved_M : Nat → Bool := fun i => Nat.testBit 31 i
def lwMoved_S : S :=
  (.seq (.sts [(.eff [] (some 2) (.box 30) [(.t 0)] []),
    (.eff [] (some 3) (.box 30) [(.t 1)] []),
    (.set 4 (.c (.bool false)))]) (.seq (.sts [(.chk [] (.c1 (.fld 0) (.t 2))),
    (.chk [] (.c1 .ld1 (.o1 (.fld 0) (.t 2)))),
    (.chk [] (.c1 (.fld 0) (.t 3))),
    (.chk [] (.c1 .ld1 (.o1 (.fld 0) (.t 3)))),
    (.chk [] (.c2 (.bin .eql) (.o1 .ld1 (.o1 (.fld 0) (.t 2))) (.o1 .ld1 (.o1 (.fld 0) (.t 3))))),
    (.chk [((.o2 (.bin .eql) (.o1 .ld1 (.o1 (.fld 0) (.t 2))) (.o1 .ld1 (.o1 (.fld 0) (.t 3)))), true)] (.c1 (.fld 1) (.t 2))),
    (.chk [((.o2 (.bin .eql) (.o1 .ld1 (.o1 (.fld 0) (.t 2))) (.o1 .ld1 (.o1 (.fld 0) (.t 3)))), true)] (.c1 .ld1 (.o1 (.fld 1) (.t 2)))),
    (.chk [((.o2 (.bin .eql) (.o1 .ld1 (.o1 (.fld 0) (.t 2))) (.o1 .ld1 (.o1 (.fld 0) (.t 3)))), true)] (.c1 (.fld 1) (.t 3))),
    (.chk [((.o2 (.bin .eql) (.o1 .ld1 (.o1 (.fld 0) (.t 2))) (.o1 .ld1 (.o1 (.fld 0) (.t 3)))), true)] (.c1 .ld1 (.o1 (.fld 1) (.t 3)))),
    (.chk [((.o2 (.bin .eql) (.o1 .ld1 (.o1 (.fld 0) (.t 2))) (.o1 .ld1 (.o1 (.fld 0) (.t 3)))), true)] (.c2 (.bin .eql) (.o1 .ld1 (.o1 (.fld 1) (.t 2))) (.o1 .ld1 (.o1 (.fld 1) (.t 3))))),
    (.chk [] (.c3 .pick (.o2 (.bin .eql) (.o1 .ld1 (.o1 (.fld 0) (.t 2))) (.o1 .ld1 (.o1 (.fld 0) (.t 3)))) (.o2 (.bin .eql) (.o1 .ld1 (.o1 (.fld 1) (.t 2))) (.o1 .ld1 (.o1 (.fld 1) (.t 3)))) (.c (.bool false)))),
    (.chk [((.o3 .pick (.o2 (.bin .eql) (.o1 .ld1 (.o1 (.fld 0) (.t 2))) (.o1 .ld1 (.o1 (.fld 0) (.t 3)))) (.o2 (.bin .eql) (.o1 .ld1 (.o1 (.fld 1) (.t 2))) (.o1 .ld1 (.o1 (.fld 1) (.t 3)))) (.c (.bool false))), true)] (.c1 (.fld 2) (.t 2))),
    (.chk [((.o3 .pick (.o2 (.bin .eql) (.o1 .ld1 (.o1 (.fld 0) (.t 2))) (.o1 .ld1 (.o1 (.fld 0) (.t 3)))) (.o2 (.bin .eql) (.o1 .ld1 (.o1 (.fld 1) (.t 2))) (.o1 .ld1 (.o1 (.fld 1) (.t 3)))) (.c (.bool false))), true)] (.c1 .ld1 (.o1 (.fld 2) (.t 2)))),
    (.chk [((.o3 .pick (.o2 (.bin .eql) (.o1 .ld1 (.o1 (.fld 0) (.t 2))) (.o1 .ld1 (.o1 (.fld 0) (.t 3)))) (.o2 (.bin .eql) (.o1 .ld1 (.o1 (.fld 1) (.t 2))) (.o1 .ld1 (.o1 (.fld 1) (.t 3)))) (.c (.bool false))), true)] (.c1 (.fld 2) (.t 3))),
    (.chk [((.o3 .pick (.o2 (.bin .eql) (.o1 .ld1 (.o1 (.fld 0) (.t 2))) (.o1 .ld1 (.o1 (.fld 0) (.t 3)))) (.o2 (.bin .eql) (.o1 .ld1 (.o1 (.fld 1) (.t 2))) (.o1 .ld1 (.o1 (.fld 1) (.t 3)))) (.c (.bool false))), true)] (.c1 .ld1 (.o1 (.fld 2) (.t 3)))),
    (.chk [((.o3 .pick (.o2 (.bin .eql) (.o1 .ld1 (.o1 (.fld 0) (.t 2))) (.o1 .ld1 (.o1 (.fld 0) (.t 3)))) (.o2 (.bin .eql) (.o1 .ld1 (.o1 (.fld 1) (.t 2))) (.o1 .ld1 (.o1 (.fld 1) (.t 3)))) (.c (.bool false))), true)] (.c2 (.bin .eql) (.o1 .ld1 (.o1 (.fld 2) (.t 2))) (.o1 .ld1 (.o1 (.fld 2) (.t 3))))),
    (.chk [] (.c3 .pick (.o3 .pick (.o2 (.bin .eql) (.o1 .ld1 (.o1 (.fld 0) (.t 2))) (.o1 .ld1 (.o1 (.fld 0) (.t 3)))) (.o2 (.bin .eql) (.o1 .ld1 (.o1 (.fld 1) (.t 2))) (.o1 .ld1 (.o1 (.fld 1) (.t 3)))) (.c (.bool false))) (.o2 (.bin .eql) (.o1 .ld1 (.o1 (.fld 2) (.t 2))) (.o1 .ld1 (.o1 (.fld 2) (.t 3)))) (.c (.bool false)))),
    (.chk [((.o3 .pick (.o3 .pick (.o2 (.bin .eql) (.o1 .ld1 (.o1 (.fld 0) (.t 2))) (.o1 .ld1 (.o1 (.fld 0) (.t 3)))) (.o2 (.bin .eql) (.o1 .ld1 (.o1 (.fld 1) (.t 2))) (.o1 .ld1 (.o1 (.fld 1) (.t 3)))) (.c (.bool false))) (.o2 (.bin .eql) (.o1 .ld1 (.o1 (.fld 2) (.t 2))) (.o1 .ld1 (.o1 (.fld 2) (.t 3)))) (.c (.bool false))), true)] (.c1 (.fld 3) (.t 2))),
    (.chk [((.o3 .pick (.o3 .pick (.o2 (.bin .eql) (.o1 .ld1 (.o1 (.fld 0) (.t 2))) (.o1 .ld1 (.o1 (.fld 0) (.t 3)))) (.o2 (.bin .eql) (.o1 .ld1 (.o1 (.fld 1) (.t 2))) (.o1 .ld1 (.o1 (.fld 1) (.t 3)))) (.c (.bool false))) (.o2 (.bin .eql) (.o1 .ld1 (.o1 (.fld 2) (.t 2))) (.o1 .ld1 (.o1 (.fld 2) (.t 3)))) (.c (.bool false))), true)] (.c1 .ld1 (.o1 (.fld 3) (.t 2)))),
    (.chk [((.o3 .pick (.o3 .pick (.o2 (.bin .eql) (.o1 .ld1 (.o1 (.fld 0) (.t 2))) (.o1 .ld1 (.o1 (.fld 0) (.t 3)))) (.o2 (.bin .eql) (.o1 .ld1 (.o1 (.fld 1) (.t 2))) (.o1 .ld1 (.o1 (.fld 1) (.t 3)))) (.c (.bool false))) (.o2 (.bin .eql) (.o1 .ld1 (.o1 (.fld 2) (.t 2))) (.o1 .ld1 (.o1 (.fld 2) (.t 3)))) (.c (.bool false))), true)] (.c1 (.fld 3) (.t 3))),
    (.chk [((.o3 .pick (.o3 .pick (.o2 (.bin .eql) (.o1 .ld1 (.o1 (.fld 0) (.t 2))) (.o1 .ld1 (.o1 (.fld 0) (.t 3)))) (.o2 (.bin .eql) (.o1 .ld1 (.o1 (.fld 1) (.t 2))) (.o1 .ld1 (.o1 (.fld 1) (.t 3)))) (.c (.bool false))) (.o2 (.bin .eql) (.o1 .ld1 (.o1 (.fld 2) (.t 2))) (.o1 .ld1 (.o1 (.fld 2) (.t 3)))) (.c (.bool false))), true)] (.c1 .ld1 (.o1 (.fld 3) (.t 3)))),
    (.chk [((.o3 .pick (.o3 .pick (.o2 (.bin .eql) (.o1 .ld1 (.o1 (.fld 0) (.t 2))) (.o1 .ld1 (.o1 (.fld 0) (.t 3)))) (.o2 (.bin .eql) (.o1 .ld1 (.o1 (.fld 1) (.t 2))) (.o1 .ld1 (.o1 (.fld 1) (.t 3)))) (.c (.bool false))) (.o2 (.bin .eql) (.o1 .ld1 (.o1 (.fld 2) (.t 2))) (.o1 .ld1 (.o1 (.fld 2) (.t 3)))) (.c (.bool false))), true)] (.c2 (.bin .eql) (.o1 .ld1 (.o1 (.fld 3) (.t 2))) (.o1 .ld1 (.o1 (.fld 3) (.t 3))))),
    (.chk [] (.c3 .pick (.o3 .pick (.o3 .pick (.o2 (.bin .eql) (.o1 .ld1 (.o1 (.fld 0) (.t 2))) (.o1 .ld1 (.o1 (.fld 0) (.t 3)))) (.o2 (.bin .eql) (.o1 .ld1 (.o1 (.fld 1) (.t 2))) (.o1 .ld1 (.o1 (.fld 1) (.t 3)))) (.c (.bool false))) (.o2 (.bin .eql) (.o1 .ld1 (.o1 (.fld 2) (.t 2))) (.o1 .ld1 (.o1 (.fld 2) (.t 3)))) (.c (.bool false))) (.o2 (.bin .eql) (.o1 .ld1 (.o1 (.fld 3) (.t 2))) (.o1 .ld1 (.o1 (.fld 3) (.t 3)))) (.c (.bool false)))),
    (.chk [((.o3 .pick (.o3 .pick (.o3 .pick (.o2 (.bin .eql) (.o1 .ld1 (.o1 (.fld 0) (.t 2))) (.o1 .ld1 (.o1 (.fld 0) (.t 3)))) (.o2 (.bin .eql) (.o1 .ld1 (.o1 (.fld 1) (.t 2))) (.o1 .ld1 (.o1 (.fld 1) (.t 3)))) (.c (.bool false))) (.o2 (.bin .eql) (.o1 .ld1 (.o1 (.fld 2) (.t 2))) (.o1 .ld1 (.o1 (.fld 2) (.t 3)))) (.c (.bool false))) (.o2 (.bin .eql) (.o1 .ld1 (.o1 (.fld 3) (.t 2))) (.o1 .ld1 (.o1 (.fld 3) (.t 3)))) (.c (.bool false))), true)] (.c1 (.fld 5) (.t 2))),
    (.chk [((.o3 .pick (.o3 .pick (.o3 .pick (.o2 (.bin .eql) (.o1 .ld1 (.o1 (.fld 0) (.t 2))) (.o1 .ld1 (.o1 (.fld 0) (.t 3)))) (.o2 (.bin .eql) (.o1 .ld1 (.o1 (.fld 1) (.t 2))) (.o1 .ld1 (.o1 (.fld 1) (.t 3)))) (.c (.bool false))) (.o2 (.bin .eql) (.o1 .ld1 (.o1 (.fld 2) (.t 2))) (.o1 .ld1 (.o1 (.fld 2) (.t 3)))) (.c (.bool false))) (.o2 (.bin .eql) (.o1 .ld1 (.o1 (.fld 3) (.t 2))) (.o1 .ld1 (.o1 (.fld 3) (.t 3)))) (.c (.bool false))), true)] (.c1 .ld1 (.o1 (.fld 5) (.t 2)))),
    (.chk [((.o3 .pick (.o3 .pick (.o3 .pick (.o2 (.bin .eql) (.o1 .ld1 (.o1 (.fld 0) (.t 2))) (.o1 .ld1 (.o1 (.fld 0) (.t 3)))) (.o2 (.bin .eql) (.o1 .ld1 (.o1 (.fld 1) (.t 2))) (.o1 .ld1 (.o1 (.fld 1) (.t 3)))) (.c (.bool false))) (.o2 (.bin .eql) (.o1 .ld1 (.o1 (.fld 2) (.t 2))) (.o1 .ld1 (.o1 (.fld 2) (.t 3)))) (.c (.bool false))) (.o2 (.bin .eql) (.o1 .ld1 (.o1 (.fld 3) (.t 2))) (.o1 .ld1 (.o1 (.fld 3) (.t 3)))) (.c (.bool false))), true)] (.c1 (.fld 4) (.t 2))),
    (.chk [((.o3 .pick (.o3 .pick (.o3 .pick (.o2 (.bin .eql) (.o1 .ld1 (.o1 (.fld 0) (.t 2))) (.o1 .ld1 (.o1 (.fld 0) (.t 3)))) (.o2 (.bin .eql) (.o1 .ld1 (.o1 (.fld 1) (.t 2))) (.o1 .ld1 (.o1 (.fld 1) (.t 3)))) (.c (.bool false))) (.o2 (.bin .eql) (.o1 .ld1 (.o1 (.fld 2) (.t 2))) (.o1 .ld1 (.o1 (.fld 2) (.t 3)))) (.c (.bool false))) (.o2 (.bin .eql) (.o1 .ld1 (.o1 (.fld 3) (.t 2))) (.o1 .ld1 (.o1 (.fld 3) (.t 3)))) (.c (.bool false))), true)] (.c1 .ld1 (.o1 (.fld 4) (.t 2)))),
    (.chk [((.o3 .pick (.o3 .pick (.o3 .pick (.o2 (.bin .eql) (.o1 .ld1 (.o1 (.fld 0) (.t 2))) (.o1 .ld1 (.o1 (.fld 0) (.t 3)))) (.o2 (.bin .eql) (.o1 .ld1 (.o1 (.fld 1) (.t 2))) (.o1 .ld1 (.o1 (.fld 1) (.t 3)))) (.c (.bool false))) (.o2 (.bin .eql) (.o1 .ld1 (.o1 (.fld 2) (.t 2))) (.o1 .ld1 (.o1 (.fld 2) (.t 3)))) (.c (.bool false))) (.o2 (.bin .eql) (.o1 .ld1 (.o1 (.fld 3) (.t 2))) (.o1 .ld1 (.o1 (.fld 3) (.t 3)))) (.c (.bool false))), true)] (.c2 (.bin .sub) (.o1 .ld1 (.o1 (.fld 5) (.t 2))) (.o1 .ld1 (.o1 (.fld 4) (.t 2))))),
    (.chk [((.o3 .pick (.o3 .pick (.o3 .pick (.o2 (.bin .eql) (.o1 .ld1 (.o1 (.fld 0) (.t 2))) (.o1 .ld1 (.o1 (.fld 0) (.t 3)))) (.o2 (.bin .eql) (.o1 .ld1 (.o1 (.fld 1) (.t 2))) (.o1 .ld1 (.o1 (.fld 1) (.t 3)))) (.c (.bool false))) (.o2 (.bin .eql) (.o1 .ld1 (.o1 (.fld 2) (.t 2))) (.o1 .ld1 (.o1 (.fld 2) (.t 3)))) (.c (.bool false))) (.o2 (.bin .eql) (.o1 .ld1 (.o1 (.fld 3) (.t 2))) (.o1 .ld1 (.o1 (.fld 3) (.t 3)))) (.c (.bool false))), true)] (.c1 (.fld 5) (.t 3))),
    (.chk [((.o3 .pick (.o3 .pick (.o3 .pick (.o2 (.bin .eql) (.o1 .ld1 (.o1 (.fld 0) (.t 2))) (.o1 .ld1 (.o1 (.fld 0) (.t 3)))) (.o2 (.bin .eql) (.o1 .ld1 (.o1 (.fld 1) (.t 2))) (.o1 .ld1 (.o1 (.fld 1) (.t 3)))) (.c (.bool false))) (.o2 (.bin .eql) (.o1 .ld1 (.o1 (.fld 2) (.t 2))) (.o1 .ld1 (.o1 (.fld 2) (.t 3)))) (.c (.bool false))) (.o2 (.bin .eql) (.o1 .ld1 (.o1 (.fld 3) (.t 2))) (.o1 .ld1 (.o1 (.fld 3) (.t 3)))) (.c (.bool false))), true)] (.c1 .ld1 (.o1 (.fld 5) (.t 3)))),
    (.chk [((.o3 .pick (.o3 .pick (.o3 .pick (.o2 (.bin .eql) (.o1 .ld1 (.o1 (.fld 0) (.t 2))) (.o1 .ld1 (.o1 (.fld 0) (.t 3)))) (.o2 (.bin .eql) (.o1 .ld1 (.o1 (.fld 1) (.t 2))) (.o1 .ld1 (.o1 (.fld 1) (.t 3)))) (.c (.bool false))) (.o2 (.bin .eql) (.o1 .ld1 (.o1 (.fld 2) (.t 2))) (.o1 .ld1 (.o1 (.fld 2) (.t 3)))) (.c (.bool false))) (.o2 (.bin .eql) (.o1 .ld1 (.o1 (.fld 3) (.t 2))) (.o1 .ld1 (.o1 (.fld 3) (.t 3)))) (.c (.bool false))), true)] (.c1 (.fld 4) (.t 3))),
    (.chk [((.o3 .pick (.o3 .pick (.o3 .pick (.o2 (.bin .eql) (.o1 .ld1 (.o1 (.fld 0) (.t 2))) (.o1 .ld1 (.o1 (.fld 0) (.t 3)))) (.o2 (.bin .eql) (.o1 .ld1 (.o1 (.fld 1) (.t 2))) (.o1 .ld1 (.o1 (.fld 1) (.t 3)))) (.c (.bool false))) (.o2 (.bin .eql) (.o1 .ld1 (.o1 (.fld 2) (.t 2))) (.o1 .ld1 (.o1 (.fld 2) (.t 3)))) (.c (.bool false))) (.o2 (.bin .eql) (.o1 .ld1 (.o1 (.fld 3) (.t 2))) (.o1 .ld1 (.o1 (.fld 3) (.t 3)))) (.c (.bool false))), true)] (.c1 .ld1 (.o1 (.fld 4) (.t 3)))),
    (.chk [((.o3 .pick (.o3 .pick (.o3 .pick (.o2 (.bin .eql) (.o1 .ld1 (.o1 (.fld 0) (.t 2))) (.o1 .ld1 (.o1 (.fld 0) (.t 3)))) (.o2 (.bin .eql) (.o1 .ld1 (.o1 (.fld 1) (.t 2))) (.o1 .ld1 (.o1 (.fld 1) (.t 3)))) (.c (.bool false))) (.o2 (.bin .eql) (.o1 .ld1 (.o1 (.fld 2) (.t 2))) (.o1 .ld1 (.o1 (.fld 2) (.t 3)))) (.c (.bool false))) (.o2 (.bin .eql) (.o1 .ld1 (.o1 (.fld 3) (.t 2))) (.o1 .ld1 (.o1 (.fld 3) (.t 3)))) (.c (.bool false))), true)] (.c2 (.bin .sub) (.o1 .ld1 (.o1 (.fld 5) (.t 3))) (.o1 .ld1 (.o1 (.fld 4) (.t 3))))),
    (.chk [((.o3 .pick (.o3 .pick (.o3 .pick (.o2 (.bin .eql) (.o1 .ld1 (.o1 (.fld 0) (.t 2))) (.o1 .ld1 (.o1 (.fld 0) (.t 3)))) (.o2 (.bin .eql) (.o1 .ld1 (.o1 (.fld 1) (.t 2))) (.o1 .ld1 (.o1 (.fld 1) (.t 3)))) (.c (.bool false))) (.o2 (.bin .eql) (.o1 .ld1 (.o1 (.fld 2) (.t 2))) (.o1 .ld1 (.o1 (.fld 2) (.t 3)))) (.c (.bool false))) (.o2 (.bin .eql) (.o1 .ld1 (.o1 (.fld 3) (.t 2))) (.o1 .ld1 (.o1 (.fld 3) (.t 3)))) (.c (.bool false))), true)] (.c2 (.bin .eql) (.o2 (.bin .sub) (.o1 .ld1 (.o1 (.fld 5) (.t 2))) (.o1 .ld1 (.o1 (.fld 4) (.t 2)))) (.o2 (.bin .sub) (.o1 .ld1 (.o1 (.fld 5) (.t 3))) (.o1 .ld1 (.o1 (.fld 4) (.t 3)))))),
    (.chk [] (.c3 .pick (.o3 .pick (.o3 .pick (.o3 .pick (.o2 (.bin .eql) (.o1 .ld1 (.o1 (.fld 0) (.t 2))) (.o1 .ld1 (.o1 (.fld 0) (.t 3)))) (.o2 (.bin .eql) (.o1 .ld1 (.o1 (.fld 1) (.t 2))) (.o1 .ld1 (.o1 (.fld 1) (.t 3)))) (.c (.bool false))) (.o2 (.bin .eql) (.o1 .ld1 (.o1 (.fld 2) (.t 2))) (.o1 .ld1 (.o1 (.fld 2) (.t 3)))) (.c (.bool false))) (.o2 (.bin .eql) (.o1 .ld1 (.o1 (.fld 3) (.t 2))) (.o1 .ld1 (.o1 (.fld 3) (.t 3)))) (.c (.bool false))) (.o2 (.bin .eql) (.o2 (.bin .sub) (.o1 .ld1 (.o1 (.fld 5) (.t 2))) (.o1 .ld1 (.o1 (.fld 4) (.t 2)))) (.o2 (.bin .sub) (.o1 .ld1 (.o1 (.fld 5) (.t 3))) (.o1 .ld1 (.o1 (.fld 4) (.t 3))))) (.c (.bool false)))),
    (.set 4 (.o3 .pick (.o3 .pick (.o3 .pick (.o3 .pick (.o2 (.bin .eql) (.o1 .ld1 (.o1 (.fld 0) (.t 2))) (.o1 .ld1 (.o1 (.fld 0) (.t 3)))) (.o2 (.bin .eql) (.o1 .ld1 (.o1 (.fld 1) (.t 2))) (.o1 .ld1 (.o1 (.fld 1) (.t 3)))) (.c (.bool false))) (.o2 (.bin .eql) (.o1 .ld1 (.o1 (.fld 2) (.t 2))) (.o1 .ld1 (.o1 (.fld 2) (.t 3)))) (.c (.bool false))) (.o2 (.bin .eql) (.o1 .ld1 (.o1 (.fld 3) (.t 2))) (.o1 .ld1 (.o1 (.fld 3) (.t 3)))) (.c (.bool false))) (.o2 (.bin .eql) (.o2 (.bin .sub) (.o1 .ld1 (.o1 (.fld 5) (.t 2))) (.o1 .ld1 (.o1 (.fld 4) (.t 2)))) (.o2 (.bin .sub) (.o1 .ld1 (.o1 (.fld 5) (.t 3))) (.o1 .ld1 (.o1 (.fld 4) (.t 3))))) (.c (.bool false))))]) .ret))
def lwMoved_E : Res := [(none, (.t 4))]
theorem lwMoved_C : Tryd.f25.body.bind (comp Tryd.prog lwMoved_M Tryd.f25.ntmps) = some lwMoved_S := by kernel_rfl
theorem lwMoved_R : resE Tryd.prog lwMoved_M Tryd.f25.results.toList = some lwMoved_E := by kernel_rfl
theorem lwMoved_H (G : Ctr) (hG : GOk Tryd.prog G) (a0 : Value) (a1 : Value) {h : H} {K : Value → H → Prop} {KP : List PanicEntry → H → Prop} (Hw : wpS G lwMoved_S (retQ lwMoved_E (callK K KP)) (envOf 0 [a0, a1] env0) h) : HCX Tryd.prog 25 [a0, a1] h K KP :=
  .inl ⟨by kernel_rfl, hc_of mixed hG Tryd.func25 lwMoved_C lwMoved_R (of_decide_eq_true (by kernel_rfl)) Hw⟩
def LexScan_M : Nat → Bool := fun i => Nat.testBit 125 i
def LexScan_S : S :=
  (.seq (.sts [(.set 2 (.c (.bool false)))]) (.seq (.sts [(.eff [] (some 9) (.call 21) [(.t 0)] []),
    (.chk [] (.c1 (.ext 0) (.t 9))),
    (.chk [] (.c1 (.ext 1) (.t 9))),
    (.eff [] (some 4) (.alloc 25 #[(.int .i64 0), (.int .i64 0), (.int .i64 0)]) [] []),
    (.set 3 (.o1 (.ext 0) (.t 9))),
    (.eff [] none (.store 3) [(.t 4), (.o1 (.ext 1) (.t 9))] [])]) (.seq (.sts [(.eff [] (some 14) (.call 15) [(.t 0)] []),
    (.chk [] (.c1 (.ext 0) (.t 14))),
    (.chk [] (.c1 (.ext 1) (.t 14))),
    (.eff [] (some 6) (.alloc 25 #[(.int .i64 0), (.int .i64 0), (.int .i64 0)]) [] []),
    (.set 5 (.o1 (.ext 0) (.t 14))),
    (.eff [] none (.store 3) [(.t 6), (.o1 (.ext 1) (.t 14))] [])]) (.seq (.sts [(.chk [] (.c1 (.ldn 3) (.t 4))),
    (.chk [] (.c1 (.ldn 3) (.t 6))),
    (.chk [] (.c2 (.eqs false [(.int .i64), (.int .i64), (.int .i64)]) (.o1 (.ldn 3) (.t 4)) (.o1 (.ldn 3) (.t 6)))),
    (.set 20 (.o2 (.eqs false [(.int .i64), (.int .i64), (.int .i64)]) (.o1 (.ldn 3) (.t 4)) (.o1 (.ldn 3) (.t 6)))),
    (.eff [((.t 20), true)] (some 23) (.call 18) [(.t 3), (.t 5)] []),
    (.chk [] (.c3 .pick (.t 20) (.t 23) (.c (.bool false)))),
    (.set 2 (.o3 .pick (.t 20) (.t 23) (.c (.bool false))))]) .ret))))
def LexScan_E : Res := [(none, (.t 2))]
theorem LexScan_C : Tryd.f5.body.bind (comp Tryd.prog LexScan_M Tryd.f5.ntmps) = some LexScan_S := by kernel_rfl
theorem LexScan_R : resE Tryd.prog LexScan_M Tryd.f5.results.toList = some LexScan_E := by kernel_rfl
theorem LexScan_H (G : Ctr) (hG : GOk Tryd.prog G) (a0 : Value) {h : H} {K : Value → H → Prop} {KP : List PanicEntry → H → Prop} (Hw : wpS G LexScan_S (retQ LexScan_E (callK K KP)) (envOf 0 [a0] env0) h) : HCX Tryd.prog 5 [a0] h K KP :=
  .inl ⟨by kernel_rfl, hc_of mixed hG Tryd.func5 LexScan_C LexScan_R (of_decide_eq_true (by kernel_rfl)) Hw⟩
def LexEachY_M : Nat → Bool := fun i => Nat.testBit 31 i
def LexEachY_S : S :=
  (.seq (.sts [(.eff [] (some 3) (.box 30) [(.t 0)] []),
    (.set 4 (.c (.bool false)))]) (.seq (.sts [(.chk [] (.c1 .ld1 (.t 1))),
    (.chk [] (.c1 (.ldn 6) (.t 3))),
    (.set 6 (.o1 (.ldn 6) (.t 3))),
    (.set 5 (.o1 .ld1 (.t 1))),
    (.eff [] (some 7) (.bsl 30 6 1 [(.int .i64 0), (str []), (.int .i64 0), (.int .i64 0), (.int .i64 0), (.int .i64 0)] [0]) [(.t 6)] []),
    (.eff [] (some 8) (.app 30 6 56 [(.int .i64 0), (str []), (.int .i64 0), (.int .i64 0), (.int .i64 0), (.int .i64 0)]) [(.t 5), (.t 7)] []),
    (.eff [] none (.store 1) [(.t 1), (.t 8)] [])]) (.seq (.sts [(.chk [] (.c1 .ld1 (.t 1))),
    (.chk [] (.c1 .len (.o1 .ld1 (.t 1)))),
    (.chk [] (.c2 (.bin .sub) (.o1 .len (.o1 .ld1 (.t 1))) (.c (.int .i64 1)))),
    (.chk [] (.c1 .ld1 (.t 2))),
    (.chk [] (.c2 (.bin .neq) (.o2 (.bin .sub) (.o1 .len (.o1 .ld1 (.t 1))) (.c (.int .i64 1))) (.o1 .ld1 (.t 2)))),
    (.set 4 (.o2 (.bin .neq) (.o2 (.bin .sub) (.o1 .len (.o1 .ld1 (.t 1))) (.c (.int .i64 1))) (.o1 .ld1 (.t 2))))]) .ret)))
def LexEachY_E : Res := [(none, (.t 4))]
theorem LexEachY_C : Tryd.f17.body.bind (comp Tryd.prog LexEachY_M Tryd.f17.ntmps) = some LexEachY_S := by kernel_rfl
theorem LexEachY_R : resE Tryd.prog LexEachY_M Tryd.f17.results.toList = some LexEachY_E := by kernel_rfl
theorem LexEachY_H (G : Ctr) (hG : GOk Tryd.prog G) (a0 : Value) (a1 : Value) (a2 : Value) {h : H} {K : Value → H → Prop} {KP : List PanicEntry → H → Prop} (Hw : wpS G LexEachY_S (retQ LexEachY_E (callK K KP)) (envOf 0 [a0, a1, a2] env0) h) : HCX Tryd.prog 17 [a0, a1, a2] h K KP :=
  .inl ⟨by kernel_rfl, hc_of mixed hG Tryd.func17 LexEachY_C LexEachY_R (of_decide_eq_true (by kernel_rfl)) Hw⟩
def LexEach_M : Nat → Bool := fun i => Nat.testBit 16777723 i
def LexEach_S : S :=
  (.seq (.sts [(.eff [] (some 3) (.box 3) [(.t 1)] []),
    (.set 4 (.c (.bool false)))]) (.seq (.sts [(.eff [] (some 11) (.call 15) [(.t 0)] []),
    (.chk [] (.c1 (.ext 0) (.t 11))),
    (.chk [] (.c1 (.ext 1) (.t 11))),
    (.eff [] (some 6) (.alloc 25 #[(.int .i64 0), (.int .i64 0), (.int .i64 0)]) [] []),
    (.set 5 (.o1 (.ext 0) (.t 11))),
    (.eff [] none (.store 3) [(.t 6), (.o1 (.ext 1) (.t 11))] [])]) (.seq (.sts [(.eff [] (some 7) (.alloc 22 #[(.slice none 0 0)]) [] [])]) (.seq (.sts [(.eff [] (some 15) (.mkf (.func 17) 0) [(.t 7), (.t 3)] []),
    (.eff [] (some 16) (.call 16) [(.t 0), (.t 15)] []),
    (.eff [] (some 8) (.alloc 25 #[(.int .i64 0), (.int .i64 0), (.int .i64 0)]) [] []),
    (.eff [] none (.store 3) [(.t 8), (.t 16)] [])]) (.seq (.seq (.sts [(.chk [] (.c1 .ld1 (.t 3))),
    (.chk [] (.c2 (.bin .geq) (.o1 .ld1 (.t 3)) (.c (.int .i64 0)))),
    (.chk [((.o2 (.bin .geq) (.o1 .ld1 (.t 3)) (.c (.int .i64 0))), true)] (.c1 .ld1 (.t 3))),
    (.chk [((.o2 (.bin .geq) (.o1 .ld1 (.t 3)) (.c (.int .i64 0))), true)] (.c1 .len (.t 5))),
    (.chk [((.o2 (.bin .geq) (.o1 .ld1 (.t 3)) (.c (.int .i64 0))), true)] (.c2 (.bin .lss) (.o1 .ld1 (.t 3)) (.o1 .len (.t 5)))),
    (.chk [] (.c3 .pick (.o2 (.bin .geq) (.o1 .ld1 (.t 3)) (.c (.int .i64 0))) (.o2 (.bin .lss) (.o1 .ld1 (.t 3)) (.o1 .len (.t 5))) (.c (.bool false)))),
    (.set 24 (.o3 .pick (.o2 (.bin .geq) (.o1 .ld1 (.t 3)) (.c (.int .i64 0))) (.o2 (.bin .lss) (.o1 .ld1 (.t 3)) (.o1 .len (.t 5))) (.c (.bool false))))]) (.cond 24 (.seq (.sts [(.chk [] (.c1 (.ldn 3) (.t 8))),
    (.chk [] (.cb 3 [])),
    (.chk [] (.c2 (.eqs false [(.int .i64), (.int .i64), (.int .i64)]) (.o1 (.ldn 3) (.t 8)) (.c (.agg #[(.int .i64 0), (.int .i64 0), (.int .i64 0)])))),
    (.chk [((.o2 (.eqs false [(.int .i64), (.int .i64), (.int .i64)]) (.o1 (.ldn 3) (.t 8)) (.c (.agg #[(.int .i64 0), (.int .i64 0), (.int .i64 0)]))), true)] (.c1 .ld1 (.t 7))),
    (.chk [((.o2 (.eqs false [(.int .i64), (.int .i64), (.int .i64)]) (.o1 (.ldn 3) (.t 8)) (.c (.agg #[(.int .i64 0), (.int .i64 0), (.int .i64 0)]))), true)] (.c1 .ld1 (.t 3))),
    (.chk [((.o2 (.eqs false [(.int .i64), (.int .i64), (.int .i64)]) (.o1 (.ldn 3) (.t 8)) (.c (.agg #[(.int .i64 0), (.int .i64 0), (.int .i64 0)]))), true)] (.c2 (.bin .add) (.o1 .ld1 (.t 3)) (.c (.int .i64 1)))),
    (.chk [((.o2 (.eqs false [(.int .i64), (.int .i64), (.int .i64)]) (.o1 (.ldn 3) (.t 8)) (.c (.agg #[(.int .i64 0), (.int .i64 0), (.int .i64 0)]))), true)] (.c2 (.cutHi 6) (.t 5) (.o2 (.bin .add) (.o1 .ld1 (.t 3)) (.c (.int .i64 1))))),
    (.set 33 (.o2 (.cutHi 6) (.t 5) (.o2 (.bin .add) (.o1 .ld1 (.t 3)) (.c (.int .i64 1))))),
    (.set 29 (.o1 .ld1 (.t 7))),
    (.set 28 (.o2 (.eqs false [(.int .i64), (.int .i64), (.int .i64)]) (.o1 (.ldn 3) (.t 8)) (.c (.agg #[(.int .i64 0), (.int .i64 0), (.int .i64 0)])))),
    (.eff [((.t 28), true)] (some 34) (.call 18) [(.t 29), (.t 33)] []),
    (.chk [] (.c3 .pick (.t 28) (.t 34) (.c (.bool false)))),
    (.set 4 (.o3 .pick (.t 28) (.t 34) (.c (.bool false))))]) .ret) .skip)) (.seq (.sts [(.chk [] (.c1 (.ldn 3) (.t 8))),
    (.chk [] (.c1 (.ldn 3) (.t 6))),
    (.chk [] (.c2 (.eqs false [(.int .i64), (.int .i64), (.int .i64)]) (.o1 (.ldn 3) (.t 8)) (.o1 (.ldn 3) (.t 6)))),
    (.chk [((.o2 (.eqs false [(.int .i64), (.int .i64), (.int .i64)]) (.o1 (.ldn 3) (.t 8)) (.o1 (.ldn 3) (.t 6))), true)] (.c1 .ld1 (.t 7))),
    (.set 40 (.o1 .ld1 (.t 7))),
    (.set 39 (.o2 (.eqs false [(.int .i64), (.int .i64), (.int .i64)]) (.o1 (.ldn 3) (.t 8)) (.o1 (.ldn 3) (.t 6)))),
    (.eff [((.t 39), true)] (some 42) (.call 18) [(.t 40), (.t 5)] []),
    (.chk [] (.c3 .pick (.t 39) (.t 42) (.c (.bool false)))),
    (.set 4 (.o3 .pick (.t 39) (.t 42) (.c (.bool false))))]) .ret))))))
def LexEach_E : Res := [(none, (.t 4))]
theorem LexEach_C : Tryd.f3.body.bind (comp Tryd.prog LexEach_M Tryd.f3.ntmps) = some LexEach_S := by kernel_rfl
theorem LexEach_R : resE Tryd.prog LexEach_M Tryd.f3.results.toList = some LexEach_E := by kernel_rfl
theorem LexEach_H (G : Ctr) (hG : GOk Tryd.prog G) (a0 : Value) (a1 : Value) {h : H} {K : Value → H → Prop} {KP : List PanicEntry → H → Prop} (Hw : wpS G LexEach_S (retQ LexEach_E (callK K KP)) (envOf 0 [a0, a1] env0) h) : HCX Tryd.prog 3 [a0, a1] h K KP :=
  .inl ⟨by kernel_rfl, hc_of mixed hG Tryd.func3 LexEach_C LexEach_R (of_decide_eq_true (by kernel_rfl)) Hw⟩
def LexStopsY_M : Nat → Bool := fun i => Nat.testBit 31 i
def LexStopsY_S : S :=
  (.seq (.sts [(.eff [] (some 3) (.box 30) [(.t 0)] []),
    (.set 4 (.c (.bool false)))]) (.seq (.sts [(.chk [] (.c1 .ld1 (.t 1))),
    (.chk [] (.c1 (.ldn 6) (.t 3))),
    (.set 6 (.o1 (.ldn 6) (.t 3))),
    (.set 5 (.o1 .ld1 (.t 1))),
    (.eff [] (some 7) (.bsl 30 6 1 [(.int .i64 0), (str []), (.int .i64 0), (.int .i64 0), (.int .i64 0), (.int .i64 0)] [0]) [(.t 6)] []),
    (.eff [] (some 8) (.app 30 6 56 [(.int .i64 0), (str []), (.int .i64 0), (.int .i64 0), (.int .i64 0), (.int .i64 0)]) [(.t 5), (.t 7)] []),
    (.eff [] none (.store 1) [(.t 1), (.t 8)] [])]) (.seq (.sts [(.chk [] (.c1 .ld1 (.t 1))),
    (.chk [] (.c1 .len (.o1 .ld1 (.t 1)))),
    (.chk [] (.c1 .ld1 (.t 2))),
    (.chk [] (.c2 (.bin .leq) (.o1 .len (.o1 .ld1 (.t 1))) (.o1 .ld1 (.t 2)))),
    (.set 4 (.o2 (.bin .leq) (.o1 .len (.o1 .ld1 (.t 1))) (.o1 .ld1 (.t 2))))]) .ret)))
def LexStopsY_E : Res := [(none, (.t 4))]
theorem LexStopsY_C : Tryd.f26.body.bind (comp Tryd.prog LexStopsY_M Tryd.f26.ntmps) = some LexStopsY_S := by kernel_rfl
theorem LexStopsY_R : resE Tryd.prog LexStopsY_M Tryd.f26.results.toList = some LexStopsY_E := by kernel_rfl
theorem LexStopsY_H (G : Ctr) (hG : GOk Tryd.prog G) (a0 : Value) (a1 : Value) (a2 : Value) {h : H} {K : Value → H → Prop} {KP : List PanicEntry → H → Prop} (Hw : wpS G LexStopsY_S (retQ LexStopsY_E (callK K KP)) (envOf 0 [a0, a1, a2] env0) h) : HCX Tryd.prog 26 [a0, a1, a2] h K KP :=
  .inl ⟨by kernel_rfl, hc_of mixed hG Tryd.func26 LexStopsY_C LexStopsY_R (of_decide_eq_true (by kernel_rfl)) Hw⟩
def LexStops_M : Nat → Bool := fun i => Nat.testBit 4631036923 i
def LexStops_S : S :=
  (.seq (.sts [(.eff [] (some 3) (.box 3) [(.t 1)] []),
    (.set 4 (.c (.bool false)))]) (.seq (.sts [(.eff [] (some 11) (.call 22) [(.t 0)] []),
    (.set 5 (.t 11))]) (.seq (.sts [(.eff [] (some 14) (.call 21) [(.t 5)] []),
    (.chk [] (.c1 (.ext 0) (.t 14))),
    (.chk [] (.c1 (.ext 1) (.t 14))),
    (.eff [] (some 7) (.alloc 25 #[(.int .i64 0), (.int .i64 0), (.int .i64 0)]) [] []),
    (.set 6 (.o1 (.ext 0) (.t 14))),
    (.eff [] none (.store 3) [(.t 7), (.o1 (.ext 1) (.t 14))] [])]) (.seq (.seq (.sts [(.eff [] (some 18) (.call 23) [(.t 6)] []),
    (.chk [] (.c1 .not (.t 18))),
    (.set 19 (.o1 .not (.t 18)))]) (.cond 19 (.seq (.sts [(.set 4 (.c (.bool false)))]) .ret) .skip)) (.seq (.sts [(.eff [] (some 8) (.alloc 22 #[(.slice none 0 0)]) [] [])]) (.seq (.sts [(.eff [] (some 21) (.mkf (.func 26) 0) [(.t 8), (.t 3)] []),
    (.eff [] (some 22) (.call 16) [(.t 5), (.t 21)] []),
    (.eff [] (some 9) (.alloc 25 #[(.int .i64 0), (.int .i64 0), (.int .i64 0)]) [] []),
    (.eff [] none (.store 3) [(.t 9), (.t 22)] [])]) (.seq (.seq (.sts [(.chk [] (.c1 (.ldn 3) (.t 7))),
    (.set 25 (.o1 (.ldn 3) (.t 7))),
    (.eff [] (some 24) (.call 16) [(.t 5), (.c .nilFunc)] [([], ((.t 7), (some 3)))]),
    (.chk [] (.c2 (.eqs true [(.int .i64), (.int .i64), (.int .i64)]) (.t 24) (.t 25))),
    (.set 26 (.o2 (.eqs true [(.int .i64), (.int .i64), (.int .i64)]) (.t 24) (.t 25)))]) (.cond 26 (.seq (.sts [(.set 4 (.c (.bool false)))]) .ret) .skip)) (.seq (.seq (.sts [(.chk [] (.c1 .ld1 (.t 3))),
    (.chk [] (.c2 (.bin .lss) (.o1 .ld1 (.t 3)) (.c (.int .i64 0)))),
    (.set 28 (.o2 (.bin .lss) (.o1 .ld1 (.t 3)) (.c (.int .i64 0))))]) (.cond 28 (.sts [(.eff [] none (.store 1) [(.t 3), (.c (.int .i64 0))] [])]) .skip)) (.seq (.seq (.sts [(.chk [] (.c1 .ld1 (.t 3))),
    (.chk [] (.c1 .len (.t 6))),
    (.chk [] (.c2 (.bin .lss) (.o1 .ld1 (.t 3)) (.o1 .len (.t 6)))),
    (.set 32 (.o2 (.bin .lss) (.o1 .ld1 (.t 3)) (.o1 .len (.t 6))))]) (.cond 32 (.seq (.sts [(.chk [] (.c1 (.ldn 3) (.t 9))),
    (.chk [] (.cb 3 [])),
    (.chk [] (.c2 (.eqs false [(.int .i64), (.int .i64), (.int .i64)]) (.o1 (.ldn 3) (.t 9)) (.c (.agg #[(.int .i64 0), (.int .i64 0), (.int .i64 0)])))),
    (.chk [((.o2 (.eqs false [(.int .i64), (.int .i64), (.int .i64)]) (.o1 (.ldn 3) (.t 9)) (.c (.agg #[(.int .i64 0), (.int .i64 0), (.int .i64 0)]))), true)] (.c1 .ld1 (.t 8))),
    (.chk [((.o2 (.eqs false [(.int .i64), (.int .i64), (.int .i64)]) (.o1 (.ldn 3) (.t 9)) (.c (.agg #[(.int .i64 0), (.int .i64 0), (.int .i64 0)]))), true)] (.c1 .ld1 (.t 3))),
    (.chk [((.o2 (.eqs false [(.int .i64), (.int .i64), (.int .i64)]) (.o1 (.ldn 3) (.t 9)) (.c (.agg #[(.int .i64 0), (.int .i64 0), (.int .i64 0)]))), true)] (.c2 (.bin .add) (.o1 .ld1 (.t 3)) (.c (.int .i64 1)))),
    (.chk [((.o2 (.eqs false [(.int .i64), (.int .i64), (.int .i64)]) (.o1 (.ldn 3) (.t 9)) (.c (.agg #[(.int .i64 0), (.int .i64 0), (.int .i64 0)]))), true)] (.c2 (.cutHi 6) (.t 6) (.o2 (.bin .add) (.o1 .ld1 (.t 3)) (.c (.int .i64 1))))),
    (.set 41 (.o2 (.cutHi 6) (.t 6) (.o2 (.bin .add) (.o1 .ld1 (.t 3)) (.c (.int .i64 1))))),
    (.set 37 (.o1 .ld1 (.t 8))),
    (.set 36 (.o2 (.eqs false [(.int .i64), (.int .i64), (.int .i64)]) (.o1 (.ldn 3) (.t 9)) (.c (.agg #[(.int .i64 0), (.int .i64 0), (.int .i64 0)])))),
    (.eff [((.t 36), true)] (some 42) (.call 18) [(.t 37), (.t 41)] []),
    (.chk [] (.c3 .pick (.t 36) (.t 42) (.c (.bool false)))),
    (.set 4 (.o3 .pick (.t 36) (.t 42) (.c (.bool false))))]) .ret) .skip)) (.seq (.sts [(.chk [] (.c1 (.ldn 3) (.t 9))),
    (.chk [] (.c1 (.ldn 3) (.t 7))),
    (.chk [] (.c2 (.eqs false [(.int .i64), (.int .i64), (.int .i64)]) (.o1 (.ldn 3) (.t 9)) (.o1 (.ldn 3) (.t 7)))),
    (.chk [((.o2 (.eqs false [(.int .i64), (.int .i64), (.int .i64)]) (.o1 (.ldn 3) (.t 9)) (.o1 (.ldn 3) (.t 7))), true)] (.c1 .ld1 (.t 8))),
    (.set 48 (.o1 .ld1 (.t 8))),
    (.set 47 (.o2 (.eqs false [(.int .i64), (.int .i64), (.int .i64)]) (.o1 (.ldn 3) (.t 9)) (.o1 (.ldn 3) (.t 7)))),
    (.eff [((.t 47), true)] (some 50) (.call 18) [(.t 48), (.t 6)] []),
    (.chk [] (.c3 .pick (.t 47) (.t 50) (.c (.bool false)))),
    (.set 4 (.o3 .pick (.t 47) (.t 50) (.c (.bool false))))]) .ret))))))))))
def LexStops_E : Res := [(none, (.t 4))]
theorem LexStops_C : Tryd.f10.body.bind (comp Tryd.prog LexStops_M Tryd.f10.ntmps) = some LexStops_S := by kernel_rfl
theorem LexStops_R : resE Tryd.prog LexStops_M Tryd.f10.results.toList = some LexStops_E := by kernel_rfl
theorem LexStops_H (G : Ctr) (hG : GOk Tryd.prog G) (a0 : Value) (a1 : Value) {h : H} {K : Value → H → Prop} {KP : List PanicEntry → H → Prop} (Hw : wpS G LexStops_S (retQ LexStops_E (callK K KP)) (envOf 0 [a0, a1] env0) h) : HCX Tryd.prog 10 [a0, a1] h K KP :=
  .inl ⟨by kernel_rfl, hc_of mixed hG Tryd.func10 LexStops_C LexStops_R (of_decide_eq_true (by kernel_rfl)) Hw⟩
def LexGaps_M : Nat → Bool := fun i => Nat.testBit 633825300418630093152639517181 i
def LexGaps_L1 : S :=
  (.seq (.seq (.sts [(.chk [] (.c1 .len (.t 4))),
    (.chk [] (.c2 (.bin .lss) (.t 7) (.o1 .len (.t 4)))),
    (.set 22 (.o2 (.bin .lss) (.t 7) (.o1 .len (.t 4))))]) (.cond 22 .skip (.exit 0))) (.seq (.block 1 (.seq (.sts [(.chk [] (.c2 (.idxA 6) (.t 4) (.t 7))),
    (.chk [] (.c1 (.ldn 6) (.o2 (.idxA 6) (.t 4) (.t 7)))),
    (.set 28 (.o1 (.ldn 6) (.o2 (.idxA 6) (.t 4) (.t 7)))),
    (.eff [] (some 8) (.alloc 30 #[(.int .i64 0), (str []), (.int .i64 0), (.int .i64 0), (.int .i64 0), (.int .i64 0)]) [] []),
    (.eff [] none (.store 6) [(.t 8), (.t 28)] [])]) (.seq (.seq (.sts [(.chk [] (.c1 (.fld 4) (.t 8))),
    (.chk [] (.c1 .ld1 (.o1 (.fld 4) (.t 8)))),
    (.chk [] (.c2 (.bin .lss) (.o1 .ld1 (.o1 (.fld 4) (.t 8))) (.t 6))),
    (.chk [((.o2 (.bin .lss) (.o1 .ld1 (.o1 (.fld 4) (.t 8))) (.t 6)), false)] (.c1 (.fld 5) (.t 8))),
    (.chk [((.o2 (.bin .lss) (.o1 .ld1 (.o1 (.fld 4) (.t 8))) (.t 6)), false)] (.c1 .ld1 (.o1 (.fld 5) (.t 8)))),
    (.chk [((.o2 (.bin .lss) (.o1 .ld1 (.o1 (.fld 4) (.t 8))) (.t 6)), false)] (.c1 (.fld 4) (.t 8))),
    (.chk [((.o2 (.bin .lss) (.o1 .ld1 (.o1 (.fld 4) (.t 8))) (.t 6)), false)] (.c1 .ld1 (.o1 (.fld 4) (.t 8)))),
    (.chk [((.o2 (.bin .lss) (.o1 .ld1 (.o1 (.fld 4) (.t 8))) (.t 6)), false)] (.c2 (.bin .lss) (.o1 .ld1 (.o1 (.fld 5) (.t 8))) (.o1 .ld1 (.o1 (.fld 4) (.t 8))))),
    (.chk [] (.c3 .pick (.o2 (.bin .lss) (.o1 .ld1 (.o1 (.fld 4) (.t 8))) (.t 6)) (.c (.bool true)) (.o2 (.bin .lss) (.o1 .ld1 (.o1 (.fld 5) (.t 8))) (.o1 .ld1 (.o1 (.fld 4) (.t 8)))))),
    (.chk [((.o3 .pick (.o2 (.bin .lss) (.o1 .ld1 (.o1 (.fld 4) (.t 8))) (.t 6)) (.c (.bool true)) (.o2 (.bin .lss) (.o1 .ld1 (.o1 (.fld 5) (.t 8))) (.o1 .ld1 (.o1 (.fld 4) (.t 8))))), false)] (.c1 (.fld 5) (.t 8))),
    (.chk [((.o3 .pick (.o2 (.bin .lss) (.o1 .ld1 (.o1 (.fld 4) (.t 8))) (.t 6)) (.c (.bool true)) (.o2 (.bin .lss) (.o1 .ld1 (.o1 (.fld 5) (.t 8))) (.o1 .ld1 (.o1 (.fld 4) (.t 8))))), false)] (.c1 .ld1 (.o1 (.fld 5) (.t 8)))),
    (.chk [((.o3 .pick (.o2 (.bin .lss) (.o1 .ld1 (.o1 (.fld 4) (.t 8))) (.t 6)) (.c (.bool true)) (.o2 (.bin .lss) (.o1 .ld1 (.o1 (.fld 5) (.t 8))) (.o1 .ld1 (.o1 (.fld 4) (.t 8))))), false)] (.c1 .lens (.t 3))),
    (.chk [((.o3 .pick (.o2 (.bin .lss) (.o1 .ld1 (.o1 (.fld 4) (.t 8))) (.t 6)) (.c (.bool true)) (.o2 (.bin .lss) (.o1 .ld1 (.o1 (.fld 5) (.t 8))) (.o1 .ld1 (.o1 (.fld 4) (.t 8))))), false)] (.c2 (.bin .gtr) (.o1 .ld1 (.o1 (.fld 5) (.t 8))) (.o1 .lens (.t 3)))),
    (.chk [] (.c3 .pick (.o3 .pick (.o2 (.bin .lss) (.o1 .ld1 (.o1 (.fld 4) (.t 8))) (.t 6)) (.c (.bool true)) (.o2 (.bin .lss) (.o1 .ld1 (.o1 (.fld 5) (.t 8))) (.o1 .ld1 (.o1 (.fld 4) (.t 8))))) (.c (.bool true)) (.o2 (.bin .gtr) (.o1 .ld1 (.o1 (.fld 5) (.t 8))) (.o1 .lens (.t 3))))),
    (.chk [((.o3 .pick (.o3 .pick (.o2 (.bin .lss) (.o1 .ld1 (.o1 (.fld 4) (.t 8))) (.t 6)) (.c (.bool true)) (.o2 (.bin .lss) (.o1 .ld1 (.o1 (.fld 5) (.t 8))) (.o1 .ld1 (.o1 (.fld 4) (.t 8))))) (.c (.bool true)) (.o2 (.bin .gtr) (.o1 .ld1 (.o1 (.fld 5) (.t 8))) (.o1 .lens (.t 3)))), false)] (.c1 (.fld 5) (.t 8))),
    (.chk [((.o3 .pick (.o3 .pick (.o2 (.bin .lss) (.o1 .ld1 (.o1 (.fld 4) (.t 8))) (.t 6)) (.c (.bool true)) (.o2 (.bin .lss) (.o1 .ld1 (.o1 (.fld 5) (.t 8))) (.o1 .ld1 (.o1 (.fld 4) (.t 8))))) (.c (.bool true)) (.o2 (.bin .gtr) (.o1 .ld1 (.o1 (.fld 5) (.t 8))) (.o1 .lens (.t 3)))), false)] (.c1 .ld1 (.o1 (.fld 5) (.t 8)))),
    (.chk [((.o3 .pick (.o3 .pick (.o2 (.bin .lss) (.o1 .ld1 (.o1 (.fld 4) (.t 8))) (.t 6)) (.c (.bool true)) (.o2 (.bin .lss) (.o1 .ld1 (.o1 (.fld 5) (.t 8))) (.o1 .ld1 (.o1 (.fld 4) (.t 8))))) (.c (.bool true)) (.o2 (.bin .gtr) (.o1 .ld1 (.o1 (.fld 5) (.t 8))) (.o1 .lens (.t 3)))), false)] (.c1 (.fld 4) (.t 8))),
    (.chk [((.o3 .pick (.o3 .pick (.o2 (.bin .lss) (.o1 .ld1 (.o1 (.fld 4) (.t 8))) (.t 6)) (.c (.bool true)) (.o2 (.bin .lss) (.o1 .ld1 (.o1 (.fld 5) (.t 8))) (.o1 .ld1 (.o1 (.fld 4) (.t 8))))) (.c (.bool true)) (.o2 (.bin .gtr) (.o1 .ld1 (.o1 (.fld 5) (.t 8))) (.o1 .lens (.t 3)))), false)] (.c1 .ld1 (.o1 (.fld 4) (.t 8)))),
    (.chk [((.o3 .pick (.o3 .pick (.o2 (.bin .lss) (.o1 .ld1 (.o1 (.fld 4) (.t 8))) (.t 6)) (.c (.bool true)) (.o2 (.bin .lss) (.o1 .ld1 (.o1 (.fld 5) (.t 8))) (.o1 .ld1 (.o1 (.fld 4) (.t 8))))) (.c (.bool true)) (.o2 (.bin .gtr) (.o1 .ld1 (.o1 (.fld 5) (.t 8))) (.o1 .lens (.t 3)))), false)] (.c2 (.bin .eql) (.o1 .ld1 (.o1 (.fld 5) (.t 8))) (.o1 .ld1 (.o1 (.fld 4) (.t 8))))),
    (.chk [((.o3 .pick (.o3 .pick (.o2 (.bin .lss) (.o1 .ld1 (.o1 (.fld 4) (.t 8))) (.t 6)) (.c (.bool true)) (.o2 (.bin .lss) (.o1 .ld1 (.o1 (.fld 5) (.t 8))) (.o1 .ld1 (.o1 (.fld 4) (.t 8))))) (.c (.bool true)) (.o2 (.bin .gtr) (.o1 .ld1 (.o1 (.fld 5) (.t 8))) (.o1 .lens (.t 3)))), false)] (.c1 (.fld 0) (.t 8))),
    (.chk [((.o3 .pick (.o3 .pick (.o2 (.bin .lss) (.o1 .ld1 (.o1 (.fld 4) (.t 8))) (.t 6)) (.c (.bool true)) (.o2 (.bin .lss) (.o1 .ld1 (.o1 (.fld 5) (.t 8))) (.o1 .ld1 (.o1 (.fld 4) (.t 8))))) (.c (.bool true)) (.o2 (.bin .gtr) (.o1 .ld1 (.o1 (.fld 5) (.t 8))) (.o1 .lens (.t 3)))), false)] (.c1 .ld1 (.o1 (.fld 0) (.t 8)))),
    (.chk [((.o3 .pick (.o3 .pick (.o2 (.bin .lss) (.o1 .ld1 (.o1 (.fld 4) (.t 8))) (.t 6)) (.c (.bool true)) (.o2 (.bin .lss) (.o1 .ld1 (.o1 (.fld 5) (.t 8))) (.o1 .ld1 (.o1 (.fld 4) (.t 8))))) (.c (.bool true)) (.o2 (.bin .gtr) (.o1 .ld1 (.o1 (.fld 5) (.t 8))) (.o1 .lens (.t 3)))), false)] (.c2 (.bin .eql) (.o1 .ld1 (.o1 (.fld 0) (.t 8))) (.c (.int .i64 0)))),
    (.chk [((.o3 .pick (.o3 .pick (.o2 (.bin .lss) (.o1 .ld1 (.o1 (.fld 4) (.t 8))) (.t 6)) (.c (.bool true)) (.o2 (.bin .lss) (.o1 .ld1 (.o1 (.fld 5) (.t 8))) (.o1 .ld1 (.o1 (.fld 4) (.t 8))))) (.c (.bool true)) (.o2 (.bin .gtr) (.o1 .ld1 (.o1 (.fld 5) (.t 8))) (.o1 .lens (.t 3)))), false)] (.c2 (.eqb true) (.o2 (.bin .eql) (.o1 .ld1 (.o1 (.fld 5) (.t 8))) (.o1 .ld1 (.o1 (.fld 4) (.t 8)))) (.o2 (.bin .eql) (.o1 .ld1 (.o1 (.fld 0) (.t 8))) (.c (.int .i64 0))))),
    (.chk [] (.c3 .pick (.o3 .pick (.o3 .pick (.o2 (.bin .lss) (.o1 .ld1 (.o1 (.fld 4) (.t 8))) (.t 6)) (.c (.bool true)) (.o2 (.bin .lss) (.o1 .ld1 (.o1 (.fld 5) (.t 8))) (.o1 .ld1 (.o1 (.fld 4) (.t 8))))) (.c (.bool true)) (.o2 (.bin .gtr) (.o1 .ld1 (.o1 (.fld 5) (.t 8))) (.o1 .lens (.t 3)))) (.c (.bool true)) (.o2 (.eqb true) (.o2 (.bin .eql) (.o1 .ld1 (.o1 (.fld 5) (.t 8))) (.o1 .ld1 (.o1 (.fld 4) (.t 8)))) (.o2 (.bin .eql) (.o1 .ld1 (.o1 (.fld 0) (.t 8))) (.c (.int .i64 0)))))),
    (.set 57 (.o3 .pick (.o3 .pick (.o3 .pick (.o2 (.bin .lss) (.o1 .ld1 (.o1 (.fld 4) (.t 8))) (.t 6)) (.c (.bool true)) (.o2 (.bin .lss) (.o1 .ld1 (.o1 (.fld 5) (.t 8))) (.o1 .ld1 (.o1 (.fld 4) (.t 8))))) (.c (.bool true)) (.o2 (.bin .gtr) (.o1 .ld1 (.o1 (.fld 5) (.t 8))) (.o1 .lens (.t 3)))) (.c (.bool true)) (.o2 (.eqb true) (.o2 (.bin .eql) (.o1 .ld1 (.o1 (.fld 5) (.t 8))) (.o1 .ld1 (.o1 (.fld 4) (.t 8)))) (.o2 (.bin .eql) (.o1 .ld1 (.o1 (.fld 0) (.t 8))) (.c (.int .i64 0))))))]) (.cond 57 (.seq (.sts [(.set 2 (.c (.bool false)))]) .ret) .skip)) (.seq (.seq (.sts [(.chk [] (.c1 (.fld 4) (.t 8))),
    (.chk [] (.c1 .ld1 (.o1 (.fld 4) (.t 8)))),
    (.set 61 (.o1 .ld1 (.o1 (.fld 4) (.t 8)))),
    (.eff [] (some 62) (.call 29) [(.t 3), (.t 6), (.t 61)] []),
    (.chk [] (.c1 .not (.t 62))),
    (.set 63 (.o1 .not (.t 62)))]) (.cond 63 (.seq (.sts [(.set 2 (.c (.bool false)))]) .ret) .skip)) (.sts [(.chk [] (.c1 (.fld 5) (.t 8))),
    (.chk [] (.c1 .ld1 (.o1 (.fld 5) (.t 8)))),
    (.set 6 (.o1 .ld1 (.o1 (.fld 5) (.t 8))))]))))) (.sts [(.chk [] (.c2 (.bin .add) (.t 7) (.c (.int .i64 1)))),
    (.set 24 (.o2 (.bin .add) (.t 7) (.c (.int .i64 1)))),
    (.set 7 (.t 24))])))
def LexGaps_S : S :=
  (.seq (.sts [(.set 2 (.c (.bool false)))]) (.seq (.sts [(.eff [] (some 10) (.call 22) [(.t 0)] []),
    (.set 3 (.t 10))]) (.seq (.sts [(.eff [] (some 13) (.call 21) [(.t 3)] []),
    (.chk [] (.c1 (.ext 0) (.t 13))),
    (.chk [] (.c1 (.ext 1) (.t 13))),
    (.eff [] (some 5) (.alloc 25 #[(.int .i64 0), (.int .i64 0), (.int .i64 0)]) [] []),
    (.set 4 (.o1 (.ext 0) (.t 13))),
    (.eff [] none (.store 3) [(.t 5), (.o1 (.ext 1) (.t 13))] [])]) (.seq (.seq (.sts [(.eff [] (some 17) (.call 23) [(.t 4)] []),
    (.chk [] (.c1 .not (.t 17))),
    (.set 18 (.o1 .not (.t 17)))]) (.cond 18 (.seq (.sts [(.set 2 (.c (.bool false)))]) .ret) .skip)) (.seq (.sts [(.set 6 (.c (.int .i64 0)))]) (.seq (.seq (.sts [(.set 7 (.c (.int .i64 0)))]) (.block 0 (.loop LexGaps_L1))) (.seq (.seq (.sts [(.chk [] (.c1 (.fld 0) (.t 5))),
    (.chk [] (.c1 .ld1 (.o1 (.fld 0) (.t 5)))),
    (.chk [] (.c2 (.bin .eql) (.o1 .ld1 (.o1 (.fld 0) (.t 5))) (.c (.int .i64 0)))),
    (.set 68 (.o2 (.bin .eql) (.o1 .ld1 (.o1 (.fld 0) (.t 5))) (.c (.int .i64 0))))]) (.cond 68 (.seq (.sts [(.chk [] (.c1 (.ldn 3) (.t 5))),
    (.chk [] (.c1 .lens (.t 3))),
    (.set 70 (.o1 (.ldn 3) (.t 5))),
    (.eff [] (some 73) (.call 24) [(.t 4), (.t 70), (.o1 .lens (.t 3))] []),
    (.set 2 (.t 73))]) .ret) .skip)) (.seq (.seq (.sts [(.chk [] (.c1 .len (.t 4))),
    (.chk [] (.c2 (.bin .sub) (.o1 .len (.t 4)) (.c (.int .i64 1)))),
    (.chk [] (.c2 (.idxA 6) (.t 4) (.o2 (.bin .sub) (.o1 .len (.t 4)) (.c (.int .i64 1))))),
    (.chk [] (.c1 (.fld 0) (.o2 (.idxA 6) (.t 4) (.o2 (.bin .sub) (.o1 .len (.t 4)) (.c (.int .i64 1)))))),
    (.chk [] (.c1 .ld1 (.o1 (.fld 0) (.o2 (.idxA 6) (.t 4) (.o2 (.bin .sub) (.o1 .len (.t 4)) (.c (.int .i64 1))))))),
    (.chk [] (.c2 (.bin .eql) (.o1 .ld1 (.o1 (.fld 0) (.o2 (.idxA 6) (.t 4) (.o2 (.bin .sub) (.o1 .len (.t 4)) (.c (.int .i64 1)))))) (.c (.int .i64 0)))),
    (.chk [((.o2 (.bin .eql) (.o1 .ld1 (.o1 (.fld 0) (.o2 (.idxA 6) (.t 4) (.o2 (.bin .sub) (.o1 .len (.t 4)) (.c (.int .i64 1)))))) (.c (.int .i64 0))), false)] (.c1 (.fld 1) (.t 5))),
    (.chk [((.o2 (.bin .eql) (.o1 .ld1 (.o1 (.fld 0) (.o2 (.idxA 6) (.t 4) (.o2 (.bin .sub) (.o1 .len (.t 4)) (.c (.int .i64 1)))))) (.c (.int .i64 0))), false)] (.c1 .ld1 (.o1 (.fld 1) (.t 5)))),
    (.chk [((.o2 (.bin .eql) (.o1 .ld1 (.o1 (.fld 0) (.o2 (.idxA 6) (.t 4) (.o2 (.bin .sub) (.o1 .len (.t 4)) (.c (.int .i64 1)))))) (.c (.int .i64 0))), false)] (.c2 (.bin .neq) (.o1 .ld1 (.o1 (.fld 1) (.t 5))) (.c (.int .i64 0)))),
    (.chk [] (.c3 .pick (.o2 (.bin .eql) (.o1 .ld1 (.o1 (.fld 0) (.o2 (.idxA 6) (.t 4) (.o2 (.bin .sub) (.o1 .len (.t 4)) (.c (.int .i64 1)))))) (.c (.int .i64 0))) (.c (.bool true)) (.o2 (.bin .neq) (.o1 .ld1 (.o1 (.fld 1) (.t 5))) (.c (.int .i64 0))))),
    (.chk [((.o3 .pick (.o2 (.bin .eql) (.o1 .ld1 (.o1 (.fld 0) (.o2 (.idxA 6) (.t 4) (.o2 (.bin .sub) (.o1 .len (.t 4)) (.c (.int .i64 1)))))) (.c (.int .i64 0))) (.c (.bool true)) (.o2 (.bin .neq) (.o1 .ld1 (.o1 (.fld 1) (.t 5))) (.c (.int .i64 0)))), false)] (.c1 (.fld 2) (.t 5))),
    (.chk [((.o3 .pick (.o2 (.bin .eql) (.o1 .ld1 (.o1 (.fld 0) (.o2 (.idxA 6) (.t 4) (.o2 (.bin .sub) (.o1 .len (.t 4)) (.c (.int .i64 1)))))) (.c (.int .i64 0))) (.c (.bool true)) (.o2 (.bin .neq) (.o1 .ld1 (.o1 (.fld 1) (.t 5))) (.c (.int .i64 0)))), false)] (.c1 .ld1 (.o1 (.fld 2) (.t 5)))),
    (.chk [((.o3 .pick (.o2 (.bin .eql) (.o1 .ld1 (.o1 (.fld 0) (.o2 (.idxA 6) (.t 4) (.o2 (.bin .sub) (.o1 .len (.t 4)) (.c (.int .i64 1)))))) (.c (.int .i64 0))) (.c (.bool true)) (.o2 (.bin .neq) (.o1 .ld1 (.o1 (.fld 1) (.t 5))) (.c (.int .i64 0)))), false)] (.c2 (.bin .lss) (.o1 .ld1 (.o1 (.fld 2) (.t 5))) (.t 6))),
    (.chk [] (.c3 .pick (.o3 .pick (.o2 (.bin .eql) (.o1 .ld1 (.o1 (.fld 0) (.o2 (.idxA 6) (.t 4) (.o2 (.bin .sub) (.o1 .len (.t 4)) (.c (.int .i64 1)))))) (.c (.int .i64 0))) (.c (.bool true)) (.o2 (.bin .neq) (.o1 .ld1 (.o1 (.fld 1) (.t 5))) (.c (.int .i64 0)))) (.c (.bool true)) (.o2 (.bin .lss) (.o1 .ld1 (.o1 (.fld 2) (.t 5))) (.t 6)))),
    (.chk [((.o3 .pick (.o3 .pick (.o2 (.bin .eql) (.o1 .ld1 (.o1 (.fld 0) (.o2 (.idxA 6) (.t 4) (.o2 (.bin .sub) (.o1 .len (.t 4)) (.c (.int .i64 1)))))) (.c (.int .i64 0))) (.c (.bool true)) (.o2 (.bin .neq) (.o1 .ld1 (.o1 (.fld 1) (.t 5))) (.c (.int .i64 0)))) (.c (.bool true)) (.o2 (.bin .lss) (.o1 .ld1 (.o1 (.fld 2) (.t 5))) (.t 6))), false)] (.c1 (.fld 2) (.t 5))),
    (.chk [((.o3 .pick (.o3 .pick (.o2 (.bin .eql) (.o1 .ld1 (.o1 (.fld 0) (.o2 (.idxA 6) (.t 4) (.o2 (.bin .sub) (.o1 .len (.t 4)) (.c (.int .i64 1)))))) (.c (.int .i64 0))) (.c (.bool true)) (.o2 (.bin .neq) (.o1 .ld1 (.o1 (.fld 1) (.t 5))) (.c (.int .i64 0)))) (.c (.bool true)) (.o2 (.bin .lss) (.o1 .ld1 (.o1 (.fld 2) (.t 5))) (.t 6))), false)] (.c1 .ld1 (.o1 (.fld 2) (.t 5)))),
    (.chk [((.o3 .pick (.o3 .pick (.o2 (.bin .eql) (.o1 .ld1 (.o1 (.fld 0) (.o2 (.idxA 6) (.t 4) (.o2 (.bin .sub) (.o1 .len (.t 4)) (.c (.int .i64 1)))))) (.c (.int .i64 0))) (.c (.bool true)) (.o2 (.bin .neq) (.o1 .ld1 (.o1 (.fld 1) (.t 5))) (.c (.int .i64 0)))) (.c (.bool true)) (.o2 (.bin .lss) (.o1 .ld1 (.o1 (.fld 2) (.t 5))) (.t 6))), false)] (.c1 .lens (.t 3))),
    (.chk [((.o3 .pick (.o3 .pick (.o2 (.bin .eql) (.o1 .ld1 (.o1 (.fld 0) (.o2 (.idxA 6) (.t 4) (.o2 (.bin .sub) (.o1 .len (.t 4)) (.c (.int .i64 1)))))) (.c (.int .i64 0))) (.c (.bool true)) (.o2 (.bin .neq) (.o1 .ld1 (.o1 (.fld 1) (.t 5))) (.c (.int .i64 0)))) (.c (.bool true)) (.o2 (.bin .lss) (.o1 .ld1 (.o1 (.fld 2) (.t 5))) (.t 6))), false)] (.c2 (.bin .geq) (.o1 .ld1 (.o1 (.fld 2) (.t 5))) (.o1 .lens (.t 3)))),
    (.chk [] (.c3 .pick (.o3 .pick (.o3 .pick (.o2 (.bin .eql) (.o1 .ld1 (.o1 (.fld 0) (.o2 (.idxA 6) (.t 4) (.o2 (.bin .sub) (.o1 .len (.t 4)) (.c (.int .i64 1)))))) (.c (.int .i64 0))) (.c (.bool true)) (.o2 (.bin .neq) (.o1 .ld1 (.o1 (.fld 1) (.t 5))) (.c (.int .i64 0)))) (.c (.bool true)) (.o2 (.bin .lss) (.o1 .ld1 (.o1 (.fld 2) (.t 5))) (.t 6))) (.c (.bool true)) (.o2 (.bin .geq) (.o1 .ld1 (.o1 (.fld 2) (.t 5))) (.o1 .lens (.t 3))))),
    (.set 99 (.o3 .pick (.o3 .pick (.o3 .pick (.o2 (.bin .eql) (.o1 .ld1 (.o1 (.fld 0) (.o2 (.idxA 6) (.t 4) (.o2 (.bin .sub) (.o1 .len (.t 4)) (.c (.int .i64 1)))))) (.c (.int .i64 0))) (.c (.bool true)) (.o2 (.bin .neq) (.o1 .ld1 (.o1 (.fld 1) (.t 5))) (.c (.int .i64 0)))) (.c (.bool true)) (.o2 (.bin .lss) (.o1 .ld1 (.o1 (.fld 2) (.t 5))) (.t 6))) (.c (.bool true)) (.o2 (.bin .geq) (.o1 .ld1 (.o1 (.fld 2) (.t 5))) (.o1 .lens (.t 3)))))]) (.cond 99 (.seq (.sts [(.set 2 (.c (.bool false)))]) .ret) .skip)) (.seq (.sts [(.chk [] (.c1 (.fld 0) (.t 5))),
    (.chk [] (.c1 .ld1 (.o1 (.fld 0) (.t 5)))),
    (.chk [] (.c2 (.bin .eql) (.o1 .ld1 (.o1 (.fld 0) (.t 5))) (.c (.int .i64 16)))),
    (.chk [((.o2 (.bin .eql) (.o1 .ld1 (.o1 (.fld 0) (.t 5))) (.c (.int .i64 16))), false)] (.c1 (.fld 0) (.t 5))),
    (.chk [((.o2 (.bin .eql) (.o1 .ld1 (.o1 (.fld 0) (.t 5))) (.c (.int .i64 16))), false)] (.c1 .ld1 (.o1 (.fld 0) (.t 5)))),
    (.chk [((.o2 (.bin .eql) (.o1 .ld1 (.o1 (.fld 0) (.t 5))) (.c (.int .i64 16))), false)] (.c2 (.bin .eql) (.o1 .ld1 (.o1 (.fld 0) (.t 5))) (.c (.int .i64 12)))),
    (.chk [] (.c3 .pick (.o2 (.bin .eql) (.o1 .ld1 (.o1 (.fld 0) (.t 5))) (.c (.int .i64 16))) (.c (.bool true)) (.o2 (.bin .eql) (.o1 .ld1 (.o1 (.fld 0) (.t 5))) (.c (.int .i64 12))))),
    (.chk [((.o3 .pick (.o2 (.bin .eql) (.o1 .ld1 (.o1 (.fld 0) (.t 5))) (.c (.int .i64 16))) (.c (.bool true)) (.o2 (.bin .eql) (.o1 .ld1 (.o1 (.fld 0) (.t 5))) (.c (.int .i64 12)))), false)] (.c1 (.fld 2) (.t 5))),
    (.chk [((.o3 .pick (.o2 (.bin .eql) (.o1 .ld1 (.o1 (.fld 0) (.t 5))) (.c (.int .i64 16))) (.c (.bool true)) (.o2 (.bin .eql) (.o1 .ld1 (.o1 (.fld 0) (.t 5))) (.c (.int .i64 12)))), false)] (.c1 .ld1 (.o1 (.fld 2) (.t 5)))),
    (.set 112 (.o1 .ld1 (.o1 (.fld 2) (.t 5)))),
    (.set 108 (.o3 .pick (.o2 (.bin .eql) (.o1 .ld1 (.o1 (.fld 0) (.t 5))) (.c (.int .i64 16))) (.c (.bool true)) (.o2 (.bin .eql) (.o1 .ld1 (.o1 (.fld 0) (.t 5))) (.c (.int .i64 12))))),
    (.eff [((.t 108), false)] (some 113) (.call 29) [(.t 3), (.t 6), (.t 112)] []),
    (.chk [] (.c3 .pick (.t 108) (.c (.bool true)) (.t 113))),
    (.set 2 (.o3 .pick (.t 108) (.c (.bool true)) (.t 113)))]) .ret)))))))))
def LexGaps_E : Res := [(none, (.t 2))]
theorem LexGaps_C : Tryd.f12.body.bind (comp Tryd.prog LexGaps_M Tryd.f12.ntmps) = some LexGaps_S := by kernel_rfl
theorem LexGaps_R : resE Tryd.prog LexGaps_M Tryd.f12.results.toList = some LexGaps_E := by kernel_rfl
theorem LexGaps_H (G : Ctr) (hG : GOk Tryd.prog G) (a0 : Value) {h : H} {K : Value → H → Prop} {KP : List PanicEntry → H → Prop} (Hw : wpS G LexGaps_S (retQ LexGaps_E (callK K KP)) (envOf 0 [a0] env0) h) : HCX Tryd.prog 12 [a0] h K KP :=
  .inl ⟨by kernel_rfl, hc_of mixed hG Tryd.func12 LexGaps_C LexGaps_R (of_decide_eq_true (by kernel_rfl)) Hw⟩
def LexAlone_M : Nat → Bool := fun i => Nat.testBit 309485009821908022982083549 i
def LexAlone_L1 : S :=
  (.seq (.seq (.sts [(.chk [] (.c1 .len (.t 4))),
    (.chk [] (.c2 (.bin .lss) (.t 6) (.o1 .len (.t 4)))),
    (.set 23 (.o2 (.bin .lss) (.t 6) (.o1 .len (.t 4))))]) (.cond 23 .skip (.exit 0))) (.seq (.block 1 (.seq (.sts [(.chk [] (.c2 (.idxA 6) (.t 4) (.t 6))),
    (.chk [] (.c1 (.ldn 6) (.o2 (.idxA 6) (.t 4) (.t 6)))),
    (.set 29 (.o1 (.ldn 6) (.o2 (.idxA 6) (.t 4) (.t 6)))),
    (.eff [] (some 7) (.alloc 30 #[(.int .i64 0), (str []), (.int .i64 0), (.int .i64 0), (.int .i64 0), (.int .i64 0)]) [] []),
    (.eff [] none (.store 6) [(.t 7), (.t 29)] [])]) (.seq (.seq (.sts [(.chk [] (.c1 (.fld 0) (.t 7))),
    (.chk [] (.c1 .ld1 (.o1 (.fld 0) (.t 7)))),
    (.chk [] (.c2 (.bin .eql) (.o1 .ld1 (.o1 (.fld 0) (.t 7))) (.c (.int .i64 0)))),
    (.set 32 (.o2 (.bin .eql) (.o1 .ld1 (.o1 (.fld 0) (.t 7))) (.c (.int .i64 0))))]) (.cond 32 (.exit 1) .skip)) (.seq (.seq (.sts [(.chk [] (.c1 (.fld 4) (.t 7))),
    (.chk [] (.c1 .ld1 (.o1 (.fld 4) (.t 7)))),
    (.chk [] (.c2 (.bin .lss) (.o1 .ld1 (.o1 (.fld 4) (.t 7))) (.c (.int .i64 0)))),
    (.chk [((.o2 (.bin .lss) (.o1 .ld1 (.o1 (.fld 4) (.t 7))) (.c (.int .i64 0))), false)] (.c1 (.fld 5) (.t 7))),
    (.chk [((.o2 (.bin .lss) (.o1 .ld1 (.o1 (.fld 4) (.t 7))) (.c (.int .i64 0))), false)] (.c1 .ld1 (.o1 (.fld 5) (.t 7)))),
    (.chk [((.o2 (.bin .lss) (.o1 .ld1 (.o1 (.fld 4) (.t 7))) (.c (.int .i64 0))), false)] (.c1 .lens (.t 3))),
    (.chk [((.o2 (.bin .lss) (.o1 .ld1 (.o1 (.fld 4) (.t 7))) (.c (.int .i64 0))), false)] (.c2 (.bin .gtr) (.o1 .ld1 (.o1 (.fld 5) (.t 7))) (.o1 .lens (.t 3)))),
    (.chk [] (.c3 .pick (.o2 (.bin .lss) (.o1 .ld1 (.o1 (.fld 4) (.t 7))) (.c (.int .i64 0))) (.c (.bool true)) (.o2 (.bin .gtr) (.o1 .ld1 (.o1 (.fld 5) (.t 7))) (.o1 .lens (.t 3))))),
    (.chk [((.o3 .pick (.o2 (.bin .lss) (.o1 .ld1 (.o1 (.fld 4) (.t 7))) (.c (.int .i64 0))) (.c (.bool true)) (.o2 (.bin .gtr) (.o1 .ld1 (.o1 (.fld 5) (.t 7))) (.o1 .lens (.t 3)))), false)] (.c1 (.fld 4) (.t 7))),
    (.chk [((.o3 .pick (.o2 (.bin .lss) (.o1 .ld1 (.o1 (.fld 4) (.t 7))) (.c (.int .i64 0))) (.c (.bool true)) (.o2 (.bin .gtr) (.o1 .ld1 (.o1 (.fld 5) (.t 7))) (.o1 .lens (.t 3)))), false)] (.c1 .ld1 (.o1 (.fld 4) (.t 7)))),
    (.chk [((.o3 .pick (.o2 (.bin .lss) (.o1 .ld1 (.o1 (.fld 4) (.t 7))) (.c (.int .i64 0))) (.c (.bool true)) (.o2 (.bin .gtr) (.o1 .ld1 (.o1 (.fld 5) (.t 7))) (.o1 .lens (.t 3)))), false)] (.c1 (.fld 5) (.t 7))),
    (.chk [((.o3 .pick (.o2 (.bin .lss) (.o1 .ld1 (.o1 (.fld 4) (.t 7))) (.c (.int .i64 0))) (.c (.bool true)) (.o2 (.bin .gtr) (.o1 .ld1 (.o1 (.fld 5) (.t 7))) (.o1 .lens (.t 3)))), false)] (.c1 .ld1 (.o1 (.fld 5) (.t 7)))),
    (.chk [((.o3 .pick (.o2 (.bin .lss) (.o1 .ld1 (.o1 (.fld 4) (.t 7))) (.c (.int .i64 0))) (.c (.bool true)) (.o2 (.bin .gtr) (.o1 .ld1 (.o1 (.fld 5) (.t 7))) (.o1 .lens (.t 3)))), false)] (.c2 (.bin .geq) (.o1 .ld1 (.o1 (.fld 4) (.t 7))) (.o1 .ld1 (.o1 (.fld 5) (.t 7))))),
    (.chk [] (.c3 .pick (.o3 .pick (.o2 (.bin .lss) (.o1 .ld1 (.o1 (.fld 4) (.t 7))) (.c (.int .i64 0))) (.c (.bool true)) (.o2 (.bin .gtr) (.o1 .ld1 (.o1 (.fld 5) (.t 7))) (.o1 .lens (.t 3)))) (.c (.bool true)) (.o2 (.bin .geq) (.o1 .ld1 (.o1 (.fld 4) (.t 7))) (.o1 .ld1 (.o1 (.fld 5) (.t 7)))))),
    (.set 49 (.o3 .pick (.o3 .pick (.o2 (.bin .lss) (.o1 .ld1 (.o1 (.fld 4) (.t 7))) (.c (.int .i64 0))) (.c (.bool true)) (.o2 (.bin .gtr) (.o1 .ld1 (.o1 (.fld 5) (.t 7))) (.o1 .lens (.t 3)))) (.c (.bool true)) (.o2 (.bin .geq) (.o1 .ld1 (.o1 (.fld 4) (.t 7))) (.o1 .ld1 (.o1 (.fld 5) (.t 7))))))]) (.cond 49 (.seq (.sts [(.set 2 (.c (.bool false)))]) .ret) .skip)) (.seq (.sts [(.chk [] (.c1 (.fld 4) (.t 7))),
    (.chk [] (.c1 .ld1 (.o1 (.fld 4) (.t 7)))),
    (.chk [] (.c1 (.fld 5) (.t 7))),
    (.chk [] (.c1 .ld1 (.o1 (.fld 5) (.t 7)))),
    (.chk [] (.c3 .sub (.t 3) (.o1 .ld1 (.o1 (.fld 4) (.t 7))) (.o1 .ld1 (.o1 (.fld 5) (.t 7))))),
    (.set 56 (.o3 .sub (.t 3) (.o1 .ld1 (.o1 (.fld 4) (.t 7))) (.o1 .ld1 (.o1 (.fld 5) (.t 7))))),
    (.eff [] (some 57) (.call 21) [(.t 56)] []),
    (.chk [] (.c1 (.ext 0) (.t 57))),
    (.chk [] (.c1 (.ext 1) (.t 57))),
    (.eff [] (some 9) (.alloc 25 #[(.int .i64 0), (.int .i64 0), (.int .i64 0)]) [] []),
    (.set 8 (.o1 (.ext 0) (.t 57))),
    (.eff [] none (.store 3) [(.t 9), (.o1 (.ext 1) (.t 57))] [])]) (.seq (.sts [(.chk [] (.c1 (.ldn 3) (.t 9))),
    (.chk [] (.c1 (.fld 5) (.t 7))),
    (.chk [] (.c1 .ld1 (.o1 (.fld 5) (.t 7)))),
    (.chk [] (.c1 (.fld 4) (.t 7))),
    (.chk [] (.c1 .ld1 (.o1 (.fld 4) (.t 7)))),
    (.chk [] (.c2 (.bin .sub) (.o1 .ld1 (.o1 (.fld 5) (.t 7))) (.o1 .ld1 (.o1 (.fld 4) (.t 7))))),
    (.set 66 (.o2 (.bin .sub) (.o1 .ld1 (.o1 (.fld 5) (.t 7))) (.o1 .ld1 (.o1 (.fld 4) (.t 7))))),
    (.set 61 (.o1 (.ldn 3) (.t 9))),
    (.eff [] (some 67) (.call 24) [(.t 8), (.t 61), (.t 66)] []),
    (.chk [] (.c1 .not (.t 67))),
    (.chk [((.o1 .not (.t 67)), false)] (.c1 .len (.t 8))),
    (.chk [((.o1 .not (.t 67)), false)] (.c2 (.bin .neq) (.o1 .len (.t 8)) (.c (.int .i64 2)))),
    (.chk [] (.c3 .pick (.o1 .not (.t 67)) (.c (.bool true)) (.o2 (.bin .neq) (.o1 .len (.t 8)) (.c (.int .i64 2))))),
    (.chk [((.o3 .pick (.o1 .not (.t 67)) (.c (.bool true)) (.o2 (.bin .neq) (.o1 .len (.t 8)) (.c (.int .i64 2)))), false)] (.c2 (.idxA 6) (.t 8) (.c (.int .i64 0)))),
    (.chk [((.o3 .pick (.o1 .not (.t 67)) (.c (.bool true)) (.o2 (.bin .neq) (.o1 .len (.t 8)) (.c (.int .i64 2)))), false)] (.c1 (.fld 4) (.o2 (.idxA 6) (.t 8) (.c (.int .i64 0))))),
    (.chk [((.o3 .pick (.o1 .not (.t 67)) (.c (.bool true)) (.o2 (.bin .neq) (.o1 .len (.t 8)) (.c (.int .i64 2)))), false)] (.c1 .ld1 (.o1 (.fld 4) (.o2 (.idxA 6) (.t 8) (.c (.int .i64 0)))))),
    (.chk [((.o3 .pick (.o1 .not (.t 67)) (.c (.bool true)) (.o2 (.bin .neq) (.o1 .len (.t 8)) (.c (.int .i64 2)))), false)] (.c2 (.bin .neq) (.o1 .ld1 (.o1 (.fld 4) (.o2 (.idxA 6) (.t 8) (.c (.int .i64 0))))) (.c (.int .i64 0)))),
    (.chk [] (.c3 .pick (.o3 .pick (.o1 .not (.t 67)) (.c (.bool true)) (.o2 (.bin .neq) (.o1 .len (.t 8)) (.c (.int .i64 2)))) (.c (.bool true)) (.o2 (.bin .neq) (.o1 .ld1 (.o1 (.fld 4) (.o2 (.idxA 6) (.t 8) (.c (.int .i64 0))))) (.c (.int .i64 0))))),
    (.chk [((.o3 .pick (.o3 .pick (.o1 .not (.t 67)) (.c (.bool true)) (.o2 (.bin .neq) (.o1 .len (.t 8)) (.c (.int .i64 2)))) (.c (.bool true)) (.o2 (.bin .neq) (.o1 .ld1 (.o1 (.fld 4) (.o2 (.idxA 6) (.t 8) (.c (.int .i64 0))))) (.c (.int .i64 0)))), false)] (.c2 (.idxA 6) (.t 8) (.c (.int .i64 0)))),
    (.chk [((.o3 .pick (.o3 .pick (.o1 .not (.t 67)) (.c (.bool true)) (.o2 (.bin .neq) (.o1 .len (.t 8)) (.c (.int .i64 2)))) (.c (.bool true)) (.o2 (.bin .neq) (.o1 .ld1 (.o1 (.fld 4) (.o2 (.idxA 6) (.t 8) (.c (.int .i64 0))))) (.c (.int .i64 0)))), false)] (.c1 (.ldn 6) (.o2 (.idxA 6) (.t 8) (.c (.int .i64 0))))),
    (.chk [((.o3 .pick (.o3 .pick (.o1 .not (.t 67)) (.c (.bool true)) (.o2 (.bin .neq) (.o1 .len (.t 8)) (.c (.int .i64 2)))) (.c (.bool true)) (.o2 (.bin .neq) (.o1 .ld1 (.o1 (.fld 4) (.o2 (.idxA 6) (.t 8) (.c (.int .i64 0))))) (.c (.int .i64 0)))), false)] (.c1 (.ldn 6) (.t 7))),
    (.set 85 (.o1 (.ldn 6) (.t 7))),
    (.set 84 (.o1 (.ldn 6) (.o2 (.idxA 6) (.t 8) (.c (.int .i64 0))))),
    (.set 81 (.o3 .pick (.o3 .pick (.o1 .not (.t 67)) (.c (.bool true)) (.o2 (.bin .neq) (.o1 .len (.t 8)) (.c (.int .i64 2)))) (.c (.bool true)) (.o2 (.bin .neq) (.o1 .ld1 (.o1 (.fld 4) (.o2 (.idxA 6) (.t 8) (.c (.int .i64 0))))) (.c (.int .i64 0))))),
    (.eff [((.t 81), false)] (some 86) (.call 25) [(.t 84), (.t 85)] []),
    (.chk [((.t 81), false)] (.c1 .not (.t 86))),
    (.chk [] (.c3 .pick (.t 81) (.c (.bool true)) (.o1 .not (.t 86)))),
    (.set 88 (.o3 .pick (.t 81) (.c (.bool true)) (.o1 .not (.t 86))))]) (.cond 88 (.seq (.sts [(.set 2 (.c (.bool false)))]) .ret) .skip))))))) (.sts [(.chk [] (.c2 (.bin .add) (.t 6) (.c (.int .i64 1)))),
    (.set 25 (.o2 (.bin .add) (.t 6) (.c (.int .i64 1)))),
    (.set 6 (.t 25))])))
def LexAlone_S : S :=
  (.seq (.sts [(.set 2 (.c (.bool false)))]) (.seq (.sts [(.eff [] (some 11) (.call 22) [(.t 0)] []),
    (.set 3 (.t 11))]) (.seq (.sts [(.eff [] (some 14) (.call 21) [(.t 3)] []),
    (.chk [] (.c1 (.ext 0) (.t 14))),
    (.chk [] (.c1 (.ext 1) (.t 14))),
    (.eff [] (some 5) (.alloc 25 #[(.int .i64 0), (.int .i64 0), (.int .i64 0)]) [] []),
    (.set 4 (.o1 (.ext 0) (.t 14))),
    (.eff [] none (.store 3) [(.t 5), (.o1 (.ext 1) (.t 14))] [])]) (.seq (.seq (.sts [(.eff [] (some 18) (.call 23) [(.t 4)] []),
    (.chk [] (.c1 .not (.t 18))),
    (.set 19 (.o1 .not (.t 18)))]) (.cond 19 (.seq (.sts [(.set 2 (.c (.bool false)))]) .ret) .skip)) (.seq (.seq (.sts [(.set 6 (.c (.int .i64 0)))]) (.block 0 (.loop LexAlone_L1))) (.seq (.sts [(.set 2 (.c (.bool true)))]) .ret))))))
def LexAlone_E : Res := [(none, (.t 2))]
theorem LexAlone_C : Tryd.f6.body.bind (comp Tryd.prog LexAlone_M Tryd.f6.ntmps) = some LexAlone_S := by kernel_rfl
theorem LexAlone_R : resE Tryd.prog LexAlone_M Tryd.f6.results.toList = some LexAlone_E := by kernel_rfl
theorem LexAlone_H (G : Ctr) (hG : GOk Tryd.prog G) (a0 : Value) {h : H} {K : Value → H → Prop} {KP : List PanicEntry → H → Prop} (Hw : wpS G LexAlone_S (retQ LexAlone_E (callK K KP)) (envOf 0 [a0] env0) h) : HCX Tryd.prog 6 [a0] h K KP :=
  .inl ⟨by kernel_rfl, hc_of mixed hG Tryd.func6 LexAlone_C LexAlone_R (of_decide_eq_true (by kernel_rfl)) Hw⟩
def LexMore_M : Nat → Bool := fun i => Nat.testBit 4296017395 i
def LexMore_S : S :=
  (.seq (.sts [(.set 4 (.c (.bool false)))]) (.seq (.sts [(.eff [] (some 12) (.call 22) [(.t 0)] []),
    (.set 5 (.t 12))]) (.seq (.sts [(.eff [] (some 15) (.call 21) [(.t 5)] []),
    (.chk [] (.c1 (.ext 0) (.t 15))),
    (.chk [] (.c1 (.ext 1) (.t 15))),
    (.eff [] (some 7) (.alloc 25 #[(.int .i64 0), (.int .i64 0), (.int .i64 0)]) [] []),
    (.set 6 (.o1 (.ext 0) (.t 15))),
    (.eff [] none (.store 3) [(.t 7), (.o1 (.ext 1) (.t 15))] [])]) (.seq (.seq (.sts [(.eff [] (some 19) (.call 23) [(.t 6)] []),
    (.chk [] (.c1 .not (.t 19))),
    (.set 20 (.o1 .not (.t 19)))]) (.cond 20 (.seq (.sts [(.set 4 (.c (.bool false)))]) .ret) .skip)) (.seq (.seq (.sts [(.chk [] (.c1 (.fld 0) (.t 7))),
    (.chk [] (.c1 .ld1 (.o1 (.fld 0) (.t 7)))),
    (.chk [] (.c2 (.bin .neq) (.o1 .ld1 (.o1 (.fld 0) (.t 7))) (.c (.int .i64 0)))),
    (.chk [((.o2 (.bin .neq) (.o1 .ld1 (.o1 (.fld 0) (.t 7))) (.c (.int .i64 0))), false)] (.c1 .lens (.t 5))),
    (.chk [((.o2 (.bin .neq) (.o1 .ld1 (.o1 (.fld 0) (.t 7))) (.c (.int .i64 0))), false)] (.c2 (.bin .add) (.o1 .lens (.t 5)) (.c (.int .i64 1)))),
    (.chk [((.o2 (.bin .neq) (.o1 .ld1 (.o1 (.fld 0) (.t 7))) (.c (.int .i64 0))), false)] (.c1 .lens (.t 1))),
    (.chk [((.o2 (.bin .neq) (.o1 .ld1 (.o1 (.fld 0) (.t 7))) (.c (.int .i64 0))), false)] (.c2 (.bin .add) (.o2 (.bin .add) (.o1 .lens (.t 5)) (.c (.int .i64 1))) (.o1 .lens (.t 1)))),
    (.chk [((.o2 (.bin .neq) (.o1 .ld1 (.o1 (.fld 0) (.t 7))) (.c (.int .i64 0))), false)] (.c2 (.bin .gtr) (.o2 (.bin .add) (.o2 (.bin .add) (.o1 .lens (.t 5)) (.c (.int .i64 1))) (.o1 .lens (.t 1))) (.c (.int .i64 65536)))),
    (.chk [] (.c3 .pick (.o2 (.bin .neq) (.o1 .ld1 (.o1 (.fld 0) (.t 7))) (.c (.int .i64 0))) (.c (.bool true)) (.o2 (.bin .gtr) (.o2 (.bin .add) (.o2 (.bin .add) (.o1 .lens (.t 5)) (.c (.int .i64 1))) (.o1 .lens (.t 1))) (.c (.int .i64 65536))))),
    (.set 32 (.o3 .pick (.o2 (.bin .neq) (.o1 .ld1 (.o1 (.fld 0) (.t 7))) (.c (.int .i64 0))) (.c (.bool true)) (.o2 (.bin .gtr) (.o2 (.bin .add) (.o2 (.bin .add) (.o1 .lens (.t 5)) (.c (.int .i64 1))) (.o1 .lens (.t 1))) (.c (.int .i64 65536)))))]) (.cond 32 (.seq (.sts [(.set 4 (.c (.bool true)))]) .ret) .skip)) (.seq (.sts [(.chk [] (.c2 (.bin .add) (.t 5) (.c (str [10])))),
    (.chk [] (.c2 (.bin .add) (.o2 (.bin .add) (.t 5) (.c (str [10]))) (.t 1))),
    (.eff [] (some 38) (.call 21) [(.o2 (.bin .add) (.o2 (.bin .add) (.t 5) (.c (str [10]))) (.t 1))] []),
    (.chk [] (.c1 (.ext 0) (.t 38))),
    (.chk [] (.c1 (.ext 1) (.t 38))),
    (.eff [] (some 9) (.alloc 25 #[(.int .i64 0), (.int .i64 0), (.int .i64 0)]) [] []),
    (.set 8 (.o1 (.ext 0) (.t 38))),
    (.eff [] none (.store 3) [(.t 9), (.o1 (.ext 1) (.t 38))] [])]) (.seq (.sts [(.chk [] (.c1 .len (.t 6))),
    (.chk [] (.c2 (.bin .sub) (.o1 .len (.t 6)) (.c (.int .i64 1)))),
    (.set 10 (.o2 (.bin .sub) (.o1 .len (.t 6)) (.c (.int .i64 1))))]) (.seq (.sts [(.chk [] (.c1 (.ldn 3) (.t 7))),
    (.chk [] (.c1 .lens (.t 5))),
    (.set 45 (.o1 (.ldn 3) (.t 7))),
    (.eff [] (some 48) (.call 24) [(.t 6), (.t 45), (.o1 .lens (.t 5))] []),
    (.chk [((.t 48), true)] (.c1 .len (.t 8))),
    (.chk [((.t 48), true)] (.c2 (.bin .geq) (.o1 .len (.t 8)) (.t 10))),
    (.chk [] (.c3 .pick (.t 48) (.o2 (.bin .geq) (.o1 .len (.t 8)) (.t 10)) (.c (.bool false)))),
    (.chk [((.o3 .pick (.t 48) (.o2 (.bin .geq) (.o1 .len (.t 8)) (.t 10)) (.c (.bool false))), true)] (.c2 (.cutHi 6) (.t 8) (.t 10))),
    (.chk [((.o3 .pick (.t 48) (.o2 (.bin .geq) (.o1 .len (.t 8)) (.t 10)) (.c (.bool false))), true)] (.c2 (.cutHi 6) (.t 6) (.t 10))),
    (.eff [((.o3 .pick (.t 48) (.o2 (.bin .geq) (.o1 .len (.t 8)) (.t 10)) (.c (.bool false))), true)] (some 62) (.call 18) [(.o2 (.cutHi 6) (.t 8) (.t 10)), (.o2 (.cutHi 6) (.t 6) (.t 10))] []),
    (.chk [] (.c3 .pick (.o3 .pick (.t 48) (.o2 (.bin .geq) (.o1 .len (.t 8)) (.t 10)) (.c (.bool false))) (.t 62) (.c (.bool false)))),
    (.set 4 (.o3 .pick (.o3 .pick (.t 48) (.o2 (.bin .geq) (.o1 .len (.t 8)) (.t 10)) (.c (.bool false))) (.t 62) (.c (.bool false))))]) .ret))))))))
def LexMore_E : Res := [(none, (.t 4))]
theorem LexMore_C : Tryd.f8.body.bind (comp Tryd.prog LexMore_M Tryd.f8.ntmps) = some LexMore_S := by kernel_rfl
theorem LexMore_R : resE Tryd.prog LexMore_M Tryd.f8.results.toList = some LexMore_E := by kernel_rfl
theorem LexMore_H (G : Ctr) (hG : GOk Tryd.prog G) (a0 : Value) (a1 : Value) {h : H} {K : Value → H → Prop} {KP : List PanicEntry → H → Prop} (Hw : wpS G LexMore_S (retQ LexMore_E (callK K KP)) (envOf 0 [a0, a1] env0) h) : HCX Tryd.prog 8 [a0, a1] h K KP :=
  .inl ⟨by kernel_rfl, hc_of mixed hG Tryd.func8 LexMore_C LexMore_R (of_decide_eq_true (by kernel_rfl)) Hw⟩
def LexFirst_M : Nat → Bool := fun i => Nat.testBit 18446753144689919869 i
def LexFirst_S : S :=
  (.seq (.sts [(.set 2 (.c (.bool false)))]) (.seq (.sts [(.eff [] (some 12) (.call 22) [(.t 0)] []),
    (.set 3 (.t 12))]) (.seq (.sts [(.eff [] (some 15) (.call 21) [(.t 3)] []),
    (.chk [] (.c1 (.ext 0) (.t 15))),
    (.chk [] (.c1 (.ext 1) (.t 15))),
    (.eff [] (some 5) (.alloc 25 #[(.int .i64 0), (.int .i64 0), (.int .i64 0)]) [] []),
    (.set 4 (.o1 (.ext 0) (.t 15))),
    (.eff [] none (.store 3) [(.t 5), (.o1 (.ext 1) (.t 15))] [])]) (.seq (.seq (.sts [(.eff [] (some 19) (.call 23) [(.t 4)] []),
    (.chk [] (.c1 .not (.t 19))),
    (.set 20 (.o1 .not (.t 19)))]) (.cond 20 (.seq (.sts [(.set 2 (.c (.bool false)))]) .ret) .skip)) (.seq (.seq (.sts [(.chk [] (.c1 (.fld 0) (.t 5))),
    (.chk [] (.c1 .ld1 (.o1 (.fld 0) (.t 5)))),
    (.chk [] (.c2 (.bin .eql) (.o1 .ld1 (.o1 (.fld 0) (.t 5))) (.c (.int .i64 0)))),
    (.set 23 (.o2 (.bin .eql) (.o1 .ld1 (.o1 (.fld 0) (.t 5))) (.c (.int .i64 0))))]) (.cond 23 (.seq (.sts [(.chk [] (.c1 (.ldn 3) (.t 5))),
    (.chk [] (.c1 .lens (.t 3))),
    (.set 25 (.o1 (.ldn 3) (.t 5))),
    (.eff [] (some 28) (.call 24) [(.t 4), (.t 25), (.o1 .lens (.t 3))] []),
    (.set 2 (.t 28))]) .ret) .skip)) (.seq (.seq (.sts [(.chk [] (.c1 (.fld 2) (.t 5))),
    (.chk [] (.c1 .ld1 (.o1 (.fld 2) (.t 5)))),
    (.chk [] (.c2 (.bin .lss) (.o1 .ld1 (.o1 (.fld 2) (.t 5))) (.c (.int .i64 0)))),
    (.chk [((.o2 (.bin .lss) (.o1 .ld1 (.o1 (.fld 2) (.t 5))) (.c (.int .i64 0))), false)] (.c1 (.fld 2) (.t 5))),
    (.chk [((.o2 (.bin .lss) (.o1 .ld1 (.o1 (.fld 2) (.t 5))) (.c (.int .i64 0))), false)] (.c1 .ld1 (.o1 (.fld 2) (.t 5)))),
    (.chk [((.o2 (.bin .lss) (.o1 .ld1 (.o1 (.fld 2) (.t 5))) (.c (.int .i64 0))), false)] (.c1 .lens (.t 3))),
    (.chk [((.o2 (.bin .lss) (.o1 .ld1 (.o1 (.fld 2) (.t 5))) (.c (.int .i64 0))), false)] (.c2 (.bin .geq) (.o1 .ld1 (.o1 (.fld 2) (.t 5))) (.o1 .lens (.t 3)))),
    (.chk [] (.c3 .pick (.o2 (.bin .lss) (.o1 .ld1 (.o1 (.fld 2) (.t 5))) (.c (.int .i64 0))) (.c (.bool true)) (.o2 (.bin .geq) (.o1 .ld1 (.o1 (.fld 2) (.t 5))) (.o1 .lens (.t 3))))),
    (.set 38 (.o3 .pick (.o2 (.bin .lss) (.o1 .ld1 (.o1 (.fld 2) (.t 5))) (.c (.int .i64 0))) (.c (.bool true)) (.o2 (.bin .geq) (.o1 .ld1 (.o1 (.fld 2) (.t 5))) (.o1 .lens (.t 3)))))]) (.cond 38 (.seq (.sts [(.set 2 (.c (.bool false)))]) .ret) .skip)) (.seq (.sts [(.chk [] (.c1 (.fld 2) (.t 5))),
    (.chk [] (.c1 .ld1 (.o1 (.fld 2) (.t 5)))),
    (.set 6 (.o1 .ld1 (.o1 (.fld 2) (.t 5))))]) (.seq (.seq (.sts [(.chk [] (.c1 (.fld 0) (.t 5))),
    (.chk [] (.c1 .ld1 (.o1 (.fld 0) (.t 5)))),
    (.chk [] (.c2 (.bin .eql) (.o1 .ld1 (.o1 (.fld 0) (.t 5))) (.c (.int .i64 12)))),
    (.set 43 (.o2 (.bin .eql) (.o1 .ld1 (.o1 (.fld 0) (.t 5))) (.c (.int .i64 12))))]) (.cond 43 (.seq (.sts [(.chk [] (.c2 .subHi (.t 3) (.t 6))),
    (.eff [] (some 48) (.call 21) [(.o2 .subHi (.t 3) (.t 6))] []),
    (.chk [] (.c1 (.ext 0) (.t 48))),
    (.chk [] (.c1 (.ext 1) (.t 48))),
    (.eff [] (some 8) (.alloc 25 #[(.int .i64 0), (.int .i64 0), (.int .i64 0)]) [] []),
    (.eff [] none (.store 3) [(.t 8), (.o1 (.ext 1) (.t 48))] [])]) (.seq (.seq (.sts [(.chk [] (.c1 (.fld 0) (.t 8))),
    (.chk [] (.c1 .ld1 (.o1 (.fld 0) (.t 8)))),
    (.chk [] (.c2 (.bin .neq) (.o1 .ld1 (.o1 (.fld 0) (.t 8))) (.c (.int .i64 11)))),
    (.chk [((.o2 (.bin .neq) (.o1 .ld1 (.o1 (.fld 0) (.t 8))) (.c (.int .i64 11))), false)] (.c1 (.fld 2) (.t 8))),
    (.chk [((.o2 (.bin .neq) (.o1 .ld1 (.o1 (.fld 0) (.t 8))) (.c (.int .i64 11))), false)] (.c1 .ld1 (.o1 (.fld 2) (.t 8)))),
    (.chk [((.o2 (.bin .neq) (.o1 .ld1 (.o1 (.fld 0) (.t 8))) (.c (.int .i64 11))), false)] (.c2 (.bin .lss) (.o1 .ld1 (.o1 (.fld 2) (.t 8))) (.c (.int .i64 0)))),
    (.chk [] (.c3 .pick (.o2 (.bin .neq) (.o1 .ld1 (.o1 (.fld 0) (.t 8))) (.c (.int .i64 11))) (.c (.bool true)) (.o2 (.bin .lss) (.o1 .ld1 (.o1 (.fld 2) (.t 8))) (.c (.int .i64 0))))),
    (.chk [((.o3 .pick (.o2 (.bin .neq) (.o1 .ld1 (.o1 (.fld 0) (.t 8))) (.c (.int .i64 11))) (.c (.bool true)) (.o2 (.bin .lss) (.o1 .ld1 (.o1 (.fld 2) (.t 8))) (.c (.int .i64 0)))), false)] (.c1 (.fld 2) (.t 8))),
    (.chk [((.o3 .pick (.o2 (.bin .neq) (.o1 .ld1 (.o1 (.fld 0) (.t 8))) (.c (.int .i64 11))) (.c (.bool true)) (.o2 (.bin .lss) (.o1 .ld1 (.o1 (.fld 2) (.t 8))) (.c (.int .i64 0)))), false)] (.c1 .ld1 (.o1 (.fld 2) (.t 8)))),
    (.chk [((.o3 .pick (.o2 (.bin .neq) (.o1 .ld1 (.o1 (.fld 0) (.t 8))) (.c (.int .i64 11))) (.c (.bool true)) (.o2 (.bin .lss) (.o1 .ld1 (.o1 (.fld 2) (.t 8))) (.c (.int .i64 0)))), false)] (.c2 (.bin .geq) (.o1 .ld1 (.o1 (.fld 2) (.t 8))) (.t 6))),
    (.chk [] (.c3 .pick (.o3 .pick (.o2 (.bin .neq) (.o1 .ld1 (.o1 (.fld 0) (.t 8))) (.c (.int .i64 11))) (.c (.bool true)) (.o2 (.bin .lss) (.o1 .ld1 (.o1 (.fld 2) (.t 8))) (.c (.int .i64 0)))) (.c (.bool true)) (.o2 (.bin .geq) (.o1 .ld1 (.o1 (.fld 2) (.t 8))) (.t 6)))),
    (.set 64 (.o3 .pick (.o3 .pick (.o2 (.bin .neq) (.o1 .ld1 (.o1 (.fld 0) (.t 8))) (.c (.int .i64 11))) (.c (.bool true)) (.o2 (.bin .lss) (.o1 .ld1 (.o1 (.fld 2) (.t 8))) (.c (.int .i64 0)))) (.c (.bool true)) (.o2 (.bin .geq) (.o1 .ld1 (.o1 (.fld 2) (.t 8))) (.t 6))))]) (.cond 64 (.seq (.sts [(.set 2 (.c (.bool false)))]) .ret) .skip)) (.sts [(.chk [] (.c1 (.fld 2) (.t 8))),
    (.chk [] (.c1 .ld1 (.o1 (.fld 2) (.t 8)))),
    (.set 6 (.o1 .ld1 (.o1 (.fld 2) (.t 8))))]))) .skip)) (.seq (.sts [(.chk [] (.c2 .subHi (.t 3) (.t 6))),
    (.eff [] (some 71) (.call 21) [(.o2 .subHi (.t 3) (.t 6))] []),
    (.chk [] (.c1 (.ext 0) (.t 71))),
    (.chk [] (.c1 (.ext 1) (.t 71))),
    (.eff [] (some 10) (.alloc 25 #[(.int .i64 0), (.int .i64 0), (.int .i64 0)]) [] []),
    (.set 9 (.o1 (.ext 0) (.t 71))),
    (.eff [] none (.store 3) [(.t 10), (.o1 (.ext 1) (.t 71))] [])]) (.seq (.sts [(.chk [] (.c1 (.ldn 3) (.t 10))),
    (.set 75 (.o1 (.ldn 3) (.t 10))),
    (.eff [] (some 77) (.call 24) [(.t 9), (.t 75), (.t 6)] []),
    (.chk [((.t 77), true)] (.c1 .len (.t 9))),
    (.chk [((.t 77), true)] (.c2 (.bin .sub) (.o1 .len (.t 9)) (.c (.int .i64 1)))),
    (.chk [((.t 77), true)] (.c2 (.cutHi 6) (.t 9) (.o2 (.bin .sub) (.o1 .len (.t 9)) (.c (.int .i64 1))))),
    (.eff [((.t 77), true)] (some 85) (.call 18) [(.o2 (.cutHi 6) (.t 9) (.o2 (.bin .sub) (.o1 .len (.t 9)) (.c (.int .i64 1)))), (.t 4)] []),
    (.chk [] (.c3 .pick (.t 77) (.t 85) (.c (.bool false)))),
    (.set 2 (.o3 .pick (.t 77) (.t 85) (.c (.bool false))))]) .ret))))))))))
def LexFirst_E : Res := [(none, (.t 2))]
theorem LexFirst_C : Tryd.f9.body.bind (comp Tryd.prog LexFirst_M Tryd.f9.ntmps) = some LexFirst_S := by kernel_rfl
theorem LexFirst_R : resE Tryd.prog LexFirst_M Tryd.f9.results.toList = some LexFirst_E := by kernel_rfl
theorem LexFirst_H (G : Ctr) (hG : GOk Tryd.prog G) (a0 : Value) {h : H} {K : Value → H → Prop} {KP : List PanicEntry → H → Prop} (Hw : wpS G LexFirst_S (retQ LexFirst_E (callK K KP)) (envOf 0 [a0] env0) h) : HCX Tryd.prog 9 [a0] h K KP :=
  .inl ⟨by kernel_rfl, hc_of mixed hG Tryd.func9 LexFirst_C LexFirst_R (of_decide_eq_true (by kernel_rfl)) Hw⟩
def LexNothing_M : Nat → Bool := fun i => Nat.testBit 17626545800189 i
def LexNothing_S : S :=
  (.seq (.sts [(.set 2 (.c (.bool false)))]) (.seq (.seq (.sts [(.eff [] (some 10) (.call 29) [(.c (str [97])), (.c (.int .i64 1)), (.c (.int .i64 1))] []),
    (.chk [] (.c1 .not (.t 10))),
    (.eff [((.o1 .not (.t 10)), false)] (some 13) (.call 29) [(.c (str [97])), (.c (.int .i64 0)), (.c (.int .i64 1))] []),
    (.chk [] (.c3 .pick (.o1 .not (.t 10)) (.c (.bool true)) (.t 13))),
    (.set 14 (.o3 .pick (.o1 .not (.t 10)) (.c (.bool true)) (.t 13)))]) (.cond 14 (.seq (.sts [(.set 2 (.c (.bool false)))]) .ret) .skip)) (.seq (.sts [(.eff [] (some 17) (.call 21) [(.t 0)] []),
    (.chk [] (.c1 (.ext 0) (.t 17))),
    (.chk [] (.c1 (.ext 1) (.t 17))),
    (.eff [] (some 4) (.alloc 25 #[(.int .i64 0), (.int .i64 0), (.int .i64 0)]) [] []),
    (.set 3 (.o1 (.ext 0) (.t 17))),
    (.eff [] none (.store 3) [(.t 4), (.o1 (.ext 1) (.t 17))] [])]) (.seq (.sts [(.chk [] (.c1 (.ldn 3) (.t 4))),
    (.chk [] (.c1 .lens (.t 0))),
    (.set 21 (.o1 (.ldn 3) (.t 4))),
    (.eff [] (some 24) (.call 24) [(.t 3), (.t 21), (.o1 .lens (.t 0))] []),
    (.chk [((.t 24), true)] (.c1 .len (.t 3))),
    (.chk [((.t 24), true)] (.c2 (.bin .eql) (.o1 .len (.t 3)) (.c (.int .i64 1)))),
    (.chk [] (.c3 .pick (.t 24) (.o2 (.bin .eql) (.o1 .len (.t 3)) (.c (.int .i64 1))) (.c (.bool false)))),
    (.set 5 (.o3 .pick (.t 24) (.o2 (.bin .eql) (.o1 .len (.t 3)) (.c (.int .i64 1))) (.c (.bool false))))]) (.seq (.seq (.sts [(.chk [] (.c1 .lens (.t 0))),
    (.eff [] (some 33) (.call 29) [(.t 0), (.c (.int .i64 0)), (.o1 .lens (.t 0))] []),
    (.chk [] (.c2 (.eqb true) (.t 33) (.t 5))),
    (.set 35 (.o2 (.eqb true) (.t 33) (.t 5)))]) (.cond 35 (.seq (.sts [(.set 2 (.c (.bool false)))]) .ret) .skip)) (.seq (.seq (.sts [(.chk [] (.c1 .not (.t 5))),
    (.chk [((.o1 .not (.t 5)), false)] (.c1 .lens (.t 0))),
    (.chk [((.o1 .not (.t 5)), false)] (.c2 (.bin .mul) (.c (.int .i64 2)) (.o1 .lens (.t 0)))),
    (.chk [((.o1 .not (.t 5)), false)] (.c2 (.bin .add) (.o2 (.bin .mul) (.c (.int .i64 2)) (.o1 .lens (.t 0))) (.c (.int .i64 3)))),
    (.chk [((.o1 .not (.t 5)), false)] (.c2 (.bin .gtr) (.o2 (.bin .add) (.o2 (.bin .mul) (.c (.int .i64 2)) (.o1 .lens (.t 0))) (.c (.int .i64 3))) (.c (.int .i64 65536)))),
    (.chk [] (.c3 .pick (.o1 .not (.t 5)) (.c (.bool true)) (.o2 (.bin .gtr) (.o2 (.bin .add) (.o2 (.bin .mul) (.c (.int .i64 2)) (.o1 .lens (.t 0))) (.c (.int .i64 3))) (.c (.int .i64 65536))))),
    (.set 44 (.o3 .pick (.o1 .not (.t 5)) (.c (.bool true)) (.o2 (.bin .gtr) (.o2 (.bin .add) (.o2 (.bin .mul) (.c (.int .i64 2)) (.o1 .lens (.t 0))) (.c (.int .i64 3))) (.c (.int .i64 65536)))))]) (.cond 44 (.seq (.sts [(.set 2 (.c (.bool true)))]) .ret) .skip)) (.seq (.sts [(.chk [] (.c2 (.bin .add) (.t 0) (.c (str [10, 97, 10])))),
    (.chk [] (.c2 (.bin .add) (.o2 (.bin .add) (.t 0) (.c (str [10, 97, 10]))) (.t 0))),
    (.set 6 (.o2 (.bin .add) (.o2 (.bin .add) (.t 0) (.c (str [10, 97, 10]))) (.t 0)))]) (.seq (.sts [(.eff [] (some 51) (.call 21) [(.t 6)] []),
    (.chk [] (.c1 (.ext 0) (.t 51))),
    (.chk [] (.c1 (.ext 1) (.t 51))),
    (.eff [] (some 8) (.alloc 25 #[(.int .i64 0), (.int .i64 0), (.int .i64 0)]) [] []),
    (.set 7 (.o1 (.ext 0) (.t 51))),
    (.eff [] none (.store 3) [(.t 8), (.o1 (.ext 1) (.t 51))] [])]) (.seq (.sts [(.chk [] (.c1 .lens (.t 0))),
    (.chk [] (.c2 (.bin .add) (.o1 .lens (.t 0)) (.c (.int .i64 1)))),
    (.set 9 (.o2 (.bin .add) (.o1 .lens (.t 0)) (.c (.int .i64 1))))]) (.seq (.sts [(.chk [] (.c1 (.ldn 3) (.t 8))),
    (.chk [] (.c1 .lens (.t 6))),
    (.set 58 (.o1 (.ldn 3) (.t 8))),
    (.eff [] (some 61) (.call 24) [(.t 7), (.t 58), (.o1 .lens (.t 6))] []),
    (.chk [((.t 61), true)] (.c1 .len (.t 7))),
    (.chk [((.t 61), true)] (.c2 (.bin .eql) (.o1 .len (.t 7)) (.c (.int .i64 2)))),
    (.chk [] (.c3 .pick (.t 61) (.o2 (.bin .eql) (.o1 .len (.t 7)) (.c (.int .i64 2))) (.c (.bool false)))),
    (.chk [((.o3 .pick (.t 61) (.o2 (.bin .eql) (.o1 .len (.t 7)) (.c (.int .i64 2))) (.c (.bool false))), true)] (.c2 (.idxA 6) (.t 7) (.c (.int .i64 0)))),
    (.chk [((.o3 .pick (.t 61) (.o2 (.bin .eql) (.o1 .len (.t 7)) (.c (.int .i64 2))) (.c (.bool false))), true)] (.c1 (.ldn 6) (.o2 (.idxA 6) (.t 7) (.c (.int .i64 0))))),
    (.chk [((.o3 .pick (.t 61) (.o2 (.bin .eql) (.o1 .len (.t 7)) (.c (.int .i64 2))) (.c (.bool false))), true)] (.c2 (.bin .add) (.t 9) (.c (.int .i64 1)))),
    (.chk [((.o3 .pick (.t 61) (.o2 (.bin .eql) (.o1 .len (.t 7)) (.c (.int .i64 2))) (.c (.bool false))), true)] (.cb 6 [(0, (1, (.c (.int .i64 1)))), (1, (1, (.c (str [97])))), (4, (1, (.t 9))), (5, (1, (.o2 (.bin .add) (.t 9) (.c (.int .i64 1)))))])),
    (.chk [((.o3 .pick (.t 61) (.o2 (.bin .eql) (.o1 .len (.t 7)) (.c (.int .i64 2))) (.c (.bool false))), true)] (.c2 (.eqs false [(.int .i64), .str, (.int .i64), (.int .i64), (.int .i64), (.int .i64)]) (.o1 (.ldn 6) (.o2 (.idxA 6) (.t 7) (.c (.int .i64 0)))) (.o2 (.put 5 1) (.o2 (.put 4 1) (.o2 (.put 1 1) (.o2 (.put 0 1) (.c (.agg #[(.int .i64 0), (str []), (.int .i64 0), (.int .i64 0), (.int .i64 0), (.int .i64 0)])) (.c (.int .i64 1))) (.c (str [97]))) (.t 9)) (.o2 (.bin .add) (.t 9) (.c (.int .i64 1)))))),
    (.chk [] (.c3 .pick (.o3 .pick (.t 61) (.o2 (.bin .eql) (.o1 .len (.t 7)) (.c (.int .i64 2))) (.c (.bool false))) (.o2 (.eqs false [(.int .i64), .str, (.int .i64), (.int .i64), (.int .i64), (.int .i64)]) (.o1 (.ldn 6) (.o2 (.idxA 6) (.t 7) (.c (.int .i64 0)))) (.o2 (.put 5 1) (.o2 (.put 4 1) (.o2 (.put 1 1) (.o2 (.put 0 1) (.c (.agg #[(.int .i64 0), (str []), (.int .i64 0), (.int .i64 0), (.int .i64 0), (.int .i64 0)])) (.c (.int .i64 1))) (.c (str [97]))) (.t 9)) (.o2 (.bin .add) (.t 9) (.c (.int .i64 1))))) (.c (.bool false)))),
    (.set 2 (.o3 .pick (.o3 .pick (.t 61) (.o2 (.bin .eql) (.o1 .len (.t 7)) (.c (.int .i64 2))) (.c (.bool false))) (.o2 (.eqs false [(.int .i64), .str, (.int .i64), (.int .i64), (.int .i64), (.int .i64)]) (.o1 (.ldn 6) (.o2 (.idxA 6) (.t 7) (.c (.int .i64 0)))) (.o2 (.put 5 1) (.o2 (.put 4 1) (.o2 (.put 1 1) (.o2 (.put 0 1) (.c (.agg #[(.int .i64 0), (str []), (.int .i64 0), (.int .i64 0), (.int .i64 0), (.int .i64 0)])) (.c (.int .i64 1))) (.c (str [97]))) (.t 9)) (.o2 (.bin .add) (.t 9) (.c (.int .i64 1))))) (.c (.bool false))))]) .ret))))))))))
def LexNothing_E : Res := [(none, (.t 2))]
theorem LexNothing_C : Tryd.f13.body.bind (comp Tryd.prog LexNothing_M Tryd.f13.ntmps) = some LexNothing_S := by kernel_rfl
theorem LexNothing_R : resE Tryd.prog LexNothing_M Tryd.f13.results.toList = some LexNothing_E := by kernel_rfl
theorem LexNothing_H (G : Ctr) (hG : GOk Tryd.prog G) (a0 : Value) {h : H} {K : Value → H → Prop} {KP : List PanicEntry → H → Prop} (Hw : wpS G LexNothing_S (retQ LexNothing_E (callK K KP)) (envOf 0 [a0] env0) h) : HCX Tryd.prog 13 [a0] h K KP :=
  .inl ⟨by kernel_rfl, hc_of mixed hG Tryd.func13 LexNothing_C LexNothing_R (of_decide_eq_true (by kernel_rfl)) Hw⟩
end Go.Proofs.YtbkpmdgeeolifaaDoor
