import Derived.Test.YtmnfhmbmifompaaDoorEvB
import Derived.Test.YtmnfhmbmifompaaDoorProg
import Derived.KernelRfl
import Derived.Test.YtmnfhmbmifompaaDoorPlS
import Derived.Test.YtmnfhmbmifompaaDoorPqC
import Derived.Test.YtmnfhmbmifompaaDoorEvC
section Merged
namespace Go.Proofs.YtmnfhmbmifompaaDoor
open Go Go.Ev
def plFaultOf_M : Nat → Bool := fun i => Nat.testBit 135274675 i
def plFaultOf_S : S :=
  (.seq (.sts [(.eff [] (some 4) (.alloc 27 #[(.int .i64 0), (.int .i64 0), (.int .i64 0)]) [] [])]) (.seq (.sts [(.chk [] (.cb 3 [])),
    (.eff [] (some 5) (.alloc 27 #[(.int .i64 0), (.int .i64 0), (.int .i64 0)]) [] []),
    (.eff [] none (.store 3) [(.t 5), (.c (.agg #[(.int .i64 0), (.int .i64 0), (.int .i64 0)]))] [])]) (.seq (.seq (.sts [(.set 7 (.t 0))]) (.block 0 (.seq (.sts [(.chk [] (.c2 (.bin .eql) (.t 7) (.c (.int .i64 0)))),
    (.set 13 (.o2 (.bin .eql) (.t 7) (.c (.int .i64 0))))]) (.cond 13 (.sts [(.eff [] (some 17) (.call 28) [(.t 1)] []),
    (.chk [] (.c1 (.ext 0) (.t 17))),
    (.chk [] (.c1 (.ext 1) (.t 17))),
    (.eff [] none (.store 3) [(.t 5), (.o1 (.ext 1) (.t 17))] [])]) (.seq (.sts [(.chk [] (.c2 (.bin .eql) (.t 7) (.c (.int .i64 1)))),
    (.set 20 (.o2 (.bin .eql) (.t 7) (.c (.int .i64 1))))]) (.cond 20 (.sts [(.eff [] (some 24) (.call 22) [(.t 1)] []),
    (.chk [] (.c1 (.ext 0) (.t 24))),
    (.chk [] (.c1 (.ext 1) (.t 24))),
    (.eff [] none (.store 3) [(.t 5), (.o1 (.ext 1) (.t 24))] [])]) (.seq (.sts [(.chk [] (.c2 (.bin .eql) (.t 7) (.c (.int .i64 2)))),
    (.set 27 (.o2 (.bin .eql) (.t 7) (.c (.int .i64 2))))]) (.cond 27 (.sts [(.eff [] (some 31) (.call 36) [(.t 1)] []),
    (.chk [] (.c1 (.ext 0) (.t 31))),
    (.chk [] (.c1 (.ext 1) (.t 31))),
    (.eff [] none (.store 3) [(.t 5), (.o1 (.ext 1) (.t 31))] [])]) (.sts [(.eff [] (some 10) (.call 19) [(.t 1)] []),
    (.chk [] (.c1 (.ext 0) (.t 10))),
    (.chk [] (.c1 (.ext 1) (.t 10))),
    (.eff [] none (.store 3) [(.t 5), (.o1 (.ext 1) (.t 10))] [])]))))))))) (.seq (.sts [(.chk [] (.c1 (.ldn 3) (.t 5))),
    (.set 34 (.o1 (.ldn 3) (.t 5))),
    (.eff [] none (.store 3) [(.t 4), (.t 34)] [])]) .ret))))
def plFaultOf_E : Res := [((some (.c1 (.ldn 3) (.t 4))), (.o1 (.ldn 3) (.t 4)))]
theorem plFaultOf_C : Tryd.f43.body.bind (comp Tryd.prog plFaultOf_M Tryd.f43.ntmps) = some plFaultOf_S := by kernel_rfl
theorem plFaultOf_R : resE Tryd.prog plFaultOf_M Tryd.f43.results.toList = some plFaultOf_E := by kernel_rfl
theorem plFaultOf_H (G : Ctr) (hG : GOk Tryd.prog G) (a0 : Value) (a1 : Value) {h : H} {K : Value → H → Prop} {KP : List PanicEntry → H → Prop} (Hw : wpS G plFaultOf_S (retQ plFaultOf_E (callK K KP)) (envOf 0 [a0, a1] env0) h) : HCX Tryd.prog 43 [a0, a1] h K KP :=
  .inl ⟨by kernel_rfl, hc_of mixed hG Tryd.func43 plFaultOf_C plFaultOf_R (of_decide_eq_true (by kernel_rfl)) Hw⟩
def plMod_M : Nat → Bool := fun i => Nat.testBit 19 i
def plMod_S : S :=
  (.seq (.sts [(.set 4 (.c (.int .i64 0)))]) (.seq (.sts [(.chk [] (.c2 (.bin .rem) (.t 0) (.t 1))),
    (.chk [] (.c2 (.bin .add) (.o2 (.bin .rem) (.t 0) (.t 1)) (.t 1))),
    (.chk [] (.c2 (.bin .rem) (.o2 (.bin .add) (.o2 (.bin .rem) (.t 0) (.t 1)) (.t 1)) (.t 1))),
    (.set 4 (.o2 (.bin .rem) (.o2 (.bin .add) (.o2 (.bin .rem) (.t 0) (.t 1)) (.t 1)) (.t 1)))]) .ret))
def plMod_E : Res := [(none, (.t 4))]
theorem plMod_C : Tryd.f45.body.bind (comp Tryd.prog plMod_M Tryd.f45.ntmps) = some plMod_S := by kernel_rfl
theorem plMod_R : resE Tryd.prog plMod_M Tryd.f45.results.toList = some plMod_E := by kernel_rfl
theorem plMod_H (G : Ctr) (hG : GOk Tryd.prog G) (a0 : Value) (a1 : Value) {h : H} {K : Value → H → Prop} {KP : List PanicEntry → H → Prop} (Hw : wpS G plMod_S (retQ plMod_E (callK K KP)) (envOf 0 [a0, a1] env0) h) : HCX Tryd.prog 45 [a0, a1] h K KP :=
  .inl ⟨by kernel_rfl, hc_of mixed hG Tryd.func45 plMod_C plMod_R (of_decide_eq_true (by kernel_rfl)) Hw⟩
def plTimes_M : Nat → Bool := fun i => Nat.testBit 16563 i
def plTimes_S : S :=
  (.seq (.sts [(.set 4 (.c (str [])))]) (.seq (.seq (.sts [(.chk [] (.c2 (.bin .leq) (.t 1) (.c (.int .i64 0)))),
    (.set 7 (.o2 (.bin .leq) (.t 1) (.c (.int .i64 0))))]) (.cond 7 (.seq (.sts [(.set 4 (.c (str [])))]) .ret) .skip)) (.seq (.sts [(.chk [] (.c2 (.bin .quo) (.t 1) (.c (.int .i64 2)))),
    (.eff [] (some 11) (.call 47) [(.t 0), (.o2 (.bin .quo) (.t 1) (.c (.int .i64 2)))] []),
    (.set 5 (.t 11))]) (.seq (.seq (.sts [(.chk [] (.c2 (.bin .rem) (.t 1) (.c (.int .i64 2)))),
    (.chk [] (.c2 (.bin .eql) (.o2 (.bin .rem) (.t 1) (.c (.int .i64 2))) (.c (.int .i64 1)))),
    (.set 14 (.o2 (.bin .eql) (.o2 (.bin .rem) (.t 1) (.c (.int .i64 2))) (.c (.int .i64 1))))]) (.cond 14 (.seq (.sts [(.chk [] (.c2 (.bin .add) (.t 5) (.t 5))),
    (.chk [] (.c2 (.bin .add) (.o2 (.bin .add) (.t 5) (.t 5)) (.t 0))),
    (.set 4 (.o2 (.bin .add) (.o2 (.bin .add) (.t 5) (.t 5)) (.t 0)))]) .ret) .skip)) (.seq (.sts [(.chk [] (.c2 (.bin .add) (.t 5) (.t 5))),
    (.set 4 (.o2 (.bin .add) (.t 5) (.t 5)))]) .ret)))))
def plTimes_E : Res := [(none, (.t 4))]
theorem plTimes_C : Tryd.f47.body.bind (comp Tryd.prog plTimes_M Tryd.f47.ntmps) = some plTimes_S := by kernel_rfl
theorem plTimes_R : resE Tryd.prog plTimes_M Tryd.f47.results.toList = some plTimes_E := by kernel_rfl
theorem plTimes_H (G : Ctr) (hG : GOk Tryd.prog G) (a0 : Value) (a1 : Value) {h : H} {K : Value → H → Prop} {KP : List PanicEntry → H → Prop} (Hw : wpS G plTimes_S (retQ plTimes_E (callK K KP)) (envOf 0 [a0, a1] env0) h) : HCX Tryd.prog 47 [a0, a1] h K KP :=
  .inl ⟨by kernel_rfl, hc_of mixed hG Tryd.func47 plTimes_C plTimes_R (of_decide_eq_true (by kernel_rfl)) Hw⟩
end Go.Proofs.YtmnfhmbmifompaaDoor
end Merged
section Merged
namespace Edict
theorem mod_is (n : Int) {k : Int} (hk : 0 < k) : (n.tmod k + k).tmod k = n % k := by
  have h1 := Int.tmod_lt_of_pos n hk
  have h2 : -k < n.tmod k := by have := Int.lt_tmod_of_pos n hk; omega
  rw [Int.tmod_eq_emod_of_nonneg (by omega), Int.add_emod_right]
  have h3 := Int.tmod_add_mul_tdiv n k
  have h4 : n % k = (n.tmod k + k * n.tdiv k) % k := by rw [h3]
  rw [h4, Int.add_mul_emod_self_left]
end Edict
namespace Go.Proofs.YtmnfhmbmifompaaDoor
open Go Go.Ev Edict
def C_mod (vs : List Value) (h : H) (K : Value → H → Prop) : Prop := ∃ (n k : Int), vs = [.int .i64 n, .int .i64 k] ∧ (0 < k ∧ k ≤ 1000000) ∧ K (.int .i64 (n % k)) h
theorem plMod_ok {vs : List Value} {h : H} {K : Value → H → Prop} {KP : List PanicEntry → H → Prop} (hC : C_mod vs h K) : HCX Tryd.prog 45 vs h K KP := by
  obtain ⟨n, k, rfl, ⟨hk, hk2⟩, hK⟩ := hC
  refine plMod_H (fun _ _ _ _ _ => False) (fun _ _ _ _ _ h => h.elim) _ _ ?_
  have h1 := Int.tmod_lt_of_pos n hk
  have h2 : -k < n.tmod k := by have := Int.lt_tmod_of_pos n hk; omega
  have h3 : (IntKind.i64).wrap (n.tmod k + k) = n.tmod k + k := by
    exact wr64 (by omega) (by omega)
  rw [← mod_is n hk] at hK
  simp (disch := first | omega | (simp only [e_ssz, e_psz, e_hszs, List.length_cons, List.length_nil]; try omega; done)) only [↓reduceIte, go_sem, plMod_S, plMod_E, eq_true (show k ≠ 0 by omega), h3]
  exact hK
def C_timesB (b : Nat) (vs : List Value) (h : H) (K : Value → H → Prop) : Prop := ∃ (s : List UInt8) (n : Int), vs = [str s, .int .i64 n] ∧ n.toNat < b ∧ (-1000000 ≤ n ∧ n ≤ 1000000) ∧ s.length ≤ 100 ∧ K (str (repF s n.toNat)) h
theorem plTimes_b : ∀ (b : Nat) {vs : List Value} {h : H} {K : Value → H → Prop} {KP : List PanicEntry → H → Prop}, C_timesB b vs h K → HCX Tryd.prog 47 vs h K KP := by
  intro b
  induction b with
  | zero => rintro vs h K KP ⟨s, n, -, hb, -⟩; exact absurd hb (Nat.not_lt_zero _)
  | succ b ih =>
    rintro vs h K KP ⟨s, n, rfl, hb, ⟨hn, hn2⟩, hs, hK⟩
    refine plTimes_H (fun f vs h K _ => f = 47 ∧ C_timesB b vs h K) (by rintro f vs h K KP ⟨rfl, hC⟩; exact ih hC) _ _ ?_
    by_cases h0 : n ≤ 0
    · rw [show n.toNat = 0 by omega] at hK
      simp (disch := first | omega | (simp only [e_ssz, e_psz, e_hszs, List.length_cons, List.length_nil]; try omega; done)) only [↓reduceIte, go_sem, plTimes_S, plTimes_E, eq_true h0]
      exact hK
    obtain ⟨q, hq⟩ : ∃ q : Nat, n = q := ⟨n.toNat, by omega⟩
    subst hq
    have h2 : ((q : Nat) : Int).tdiv 2 = ((q / 2 : Nat) : Int) := by rw [Int.tdiv_eq_ediv_of_nonneg (by omega)]; omega
    have h3 : ((q : Nat) : Int).tmod 2 = ((q % 2 : Nat) : Int) := by rw [Int.tmod_eq_emod_of_nonneg (by omega)]; omega
    have h4 : IntKind.i64.wrap ((q / 2 : Nat) : Int) = ((q / 2 : Nat) : Int) := wr64 (by omega) (by omega)
    simp (disch := first | omega | (simp only [e_ssz, e_psz, e_hszs, List.length_cons, List.length_nil]; try omega; done)) only [↓reduceIte, go_sem, plTimes_S, plTimes_E, eq_false h0, h2, h4]
    refine effS_call ⟨rfl, s, ((q / 2 : Nat) : Int), rfl, by omega, by omega, hs, by simp (disch := first | omega | (simp only [e_ssz, e_psz, e_hszs, List.length_cons, List.length_nil]; try omega; done)) only [go_sem], ?_⟩
    have hlen := repF_len s (q / 2)
    have hml : s.length * (q / 2) ≤ 100 * 500000 := Nat.mul_le_mul hs (by omega)
    rw [Int.toNat_natCast] at hK ⊢
    have hX2 : repF s (q / 2) ++ repF s (q / 2) = repF s (q / 2 + q / 2) := (repF_add s _ _).symm
    obtain ⟨X, hX⟩ : ∃ X, X = repF s (q / 2) := ⟨_, rfl⟩
    rw [← hX] at hlen hX2 ⊢
    have hm := mlen'
    by_cases h1 : q % 2 = 1
    · have hq2 : X ++ X ++ s = repF s q := by
        have := repF_add s (q / 2 + q / 2) 1
        rw [show q / 2 + q / 2 + 1 = q by omega] at this
        rw [this, hX2]
        simp [repF]
      rw [← hq2] at hK
      have h5 : ((q : Nat) : Int).tmod 2 = 1 := by rw [h3]; omega
      simp (disch := first | omega | (simp only [e_ssz, e_psz, e_hszs, List.length_cons, List.length_nil]; try omega; done)) only [↓reduceIte, go_sem, eq_true h5]
      exact ⟨by omega, by omega, hK⟩
    · have hq2 : X ++ X = repF s q := by rw [hX2, show q / 2 + q / 2 = q by omega]
      rw [← hq2] at hK
      have h5 : ¬ ((q : Nat) : Int).tmod 2 = 1 := by rw [h3]; omega
      simp (disch := first | omega | (simp only [e_ssz, e_psz, e_hszs, List.length_cons, List.length_nil]; try omega; done)) only [↓reduceIte, go_sem, eq_false h5]
      exact ⟨by omega, hK⟩
def C_times (vs : List Value) (h : H) (K : Value → H → Prop) : Prop := ∃ (s : List UInt8) (n : Int), vs = [str s, .int .i64 n] ∧ (-1000000 ≤ n ∧ n ≤ 1000000) ∧ s.length ≤ 100 ∧ K (str (repF s n.toNat)) h
theorem plTimes_ok {vs : List Value} {h : H} {K : Value → H → Prop} {KP : List PanicEntry → H → Prop} (hC : C_times vs h K) : HCX Tryd.prog 47 vs h K KP := by
  obtain ⟨s, n, rfl, hn, hs, hK⟩ := hC
  exact plTimes_b (n.toNat + 1) ⟨s, n, rfl, by omega, hn, hs, hK⟩
end Go.Proofs.YtmnfhmbmifompaaDoor
end Merged
