/- guarded: the one function that recovers. Its deferred closure, in the two ways in which it is entered; and the function itself. -/
import Derived.Test.YtlenjlidahnklaaDoorPsX
import Derived.WalkKit
import Derived.Defers
import Derived.Recover
namespace Go.Ev
open Go
/-- A frame told by itself. -/
theorem rel_self [DS] {lv : Nat → Bool} {N : Nat} {a : Act} {h : H} (hs : a.tmps.size = N) (hd : a.defers = DS.d) : Rel lv N a (fun i => a.tmps.getD i undef) h [] :=
  ⟨fun _ _ => rfl, hs, hd, fun _ _ hf => (by cases hf), fun _ _ hf => (by cases hf), fun _ _ hf => (by cases hf), fun _ _ hf => (by cases hf), by simp⟩
theorem rel_get {D : List Deferred} {lv : Nat → Bool} {N : Nat} {a : Act} {σ : Env} {h : H} {δ : List Pend} (R : @Rel ⟨D⟩ lv N a σ h δ) (i : Nat) (hi : lv i = true) : a.tmps.getD i undef = σ i := @Rel.lvs ⟨D⟩ lv N a σ h δ R i hi
theorem rel_sz {D : List Deferred} {lv : Nat → Bool} {N : Nat} {a : Act} {σ : Env} {h : H} {δ : List Pend} (R : @Rel ⟨D⟩ lv N a σ h δ) : a.tmps.size = N := @Rel.sz ⟨D⟩ lv N a σ h δ R
theorem rel_df {D : List Deferred} {lv : Nat → Bool} {N : Nat} {a : Act} {σ : Env} {h : H} {δ : List Pend} (R : @Rel ⟨D⟩ lv N a σ h δ) : a.defers = D := @Rel.df ⟨D⟩ lv N a σ h δ R
theorem rel_mk {D : List Deferred} {lv : Nat → Bool} {N : Nat} {a : Act} {h : H} (hs : a.tmps.size = N) (hd : a.defers = D) : @Rel ⟨D⟩ lv N a (fun i => a.tmps.getD i undef) h [] := @rel_self ⟨D⟩ lv N a h hs hd
theorem comp_at {D : List Deferred} {P : Program} {G : Ctr} {lv : Nat → Bool} {N : Nat} (hG : GOk P G) (hmix : P.follows .mixedOrders = true) {c : Code} {s : S} {Q : Post} {a : Act} {σ : Env} {w : World} (hc : comp P lv N c = some s) (R : @Rel ⟨D⟩ lv N a σ w.heap []) (Hw : wpS G s Q σ w.heap) : c.wp P (@CQ ⟨D⟩ lv N w Q) a w :=
  letI : DS := ⟨D⟩
  comp_sound hG hmix c s Q a σ w w hc R (Keep.refl _) Hw
theorem op_mono {P : Program} {o : Oper} {a : Act} {w : World} {K K' : Act → World → Prop} {Q Q' : Exit → Act → World → Prop} (hK : ∀ a w, K a w → K' a w) (hP : ∀ c a w, Q (.panic c) a w → Q' (.panic c) a w) (hO : LetsOut Q → LetsOut Q')
    (hh : o.wp P a w K Q) : o.wp P a w K' Q' := by
  unfold Oper.wp at *
  generalize (execOp a.eval o).run P w = r at *
  cases r with
  | ok n w' =>
    cases n <;> simp only [Oper.upon] at hh ⊢ <;>
      first
        | exact hK _ _ hh
        | exact Calls.mono hh (fun e w'' he => by cases e <;> first | exact hK _ _ he | exact hP _ _ _ he | exact hO he)
        | exact Rows.mono hh (fun _ _ he => hK _ _ he)
  | halt x w' => cases x <;> simp only [Oper.upon] at hh ⊢ <;> first | exact hh | exact hP _ _ _ hh
theorem wl_step {P : Program} {ops : Array Oper} {Q : Exit → Act → World → Prop} {o : Oper} {rest : List Oper} {a : Act} {w w' : World} {v : Value} (hg : o.guard = none) (hr : (execOp a.eval o).run P w = .ok (.value v) w') (h : wpList P ops Q rest (a.put o.dst v) w') : wpList P ops Q (o :: rest) a w := by
  unfold wpList
  rw [if_pos (by unfold Region.wanted; rw [hg])]
  exact .inl (upon_value hr h)
theorem wl_defer {P : Program} {ops : Array Oper} {Q : Exit → Act → World → Prop} {o : Oper} {rest : List Oper} {a : Act} {w w' : World} {d : Deferred} (hg : o.guard = none) (hr : (execOp a.eval o).run P w = .ok (.defer d) w') (h : wpList P ops Q rest ({ a with defers := d :: a.defers }.put o.dst undef) w') : wpList P ops Q (o :: rest) a w := by
  unfold wpList
  rw [if_pos (by unfold Region.wanted; rw [hg])]
  refine .inl ?_
  unfold Oper.wp
  rw [hr]
  exact h
/-- Operations one behind the other. -/
theorem wpList_app {P : Program} {ops : Array Oper} {Q1 Q : Exit → Act → World → Prop} {l2 : List Oper} (hN : ∀ a w, Q1 .normal a w → wpList P ops Q l2 a w) (hP : ∀ c a w, Q1 (.panic c) a w → Q (.panic c) a w) (hO : LetsOut Q1 → LetsOut Q) :
    ∀ (l1 : List Oper) (a : Act) (w : World), wpList P ops Q1 l1 a w → wpList P ops Q (l1 ++ l2) a w
  | [], a, w, h => hN a w h
  | o :: r, a, w, h => by
    rw [List.cons_append]
    unfold wpList at h ⊢
    split at h
    · rename_i hw
      rw [if_pos hw]
      exact h.imp (op_mono (fun a w => wpList_app hN hP hO r a w) hP hO) (fun q => ⟨q.1, hO q.2⟩)
    · rename_i hw
      rw [if_neg hw]
      exact wpList_app hN hP hO r _ _ h
end Go.Ev
namespace Go.Proofs.YtlenjlidahnklaaDoor
open Go Go.Ev Edict Go.RowKit
theorem ta_hold (v : Value) (w : World) : (Instr.typeAssert (.iface 90 v) 20 90 true).run Tryd.prog w = .ok (.tuple #[v, .bool true]) w := by
  have hu := Tryd.underlying90
  simp [Instr.typeAssert, go_sem]
theorem catch_idle (p : Addr) (w : World) :
    CallsD Tryd.prog 37 #[.pointer (some p)] .returning w fun e u' w' => e = .returned (.tuple #[]) ∧ u' = .returning ∧ w' = w := by
  refine callsD_of_wpS Tryd.func37 rfl fun c₀ cs hu => ?_
  apply wpS_seq
  apply wpS_region
  simp [wpOpsS, go_sem, recoverD, hu, Tryd.ntmps37, Exit.thenS]
  apply wpS_seq
  apply wpS_seq
  apply wpS_region
  simp [wpOpsS, go_sem, Exit.thenS]
  refine wpS_cond (t := true) (by simp [Act.eval, Array.replicate]) ?_
  simp only [if_true]
  refine wpS_of_wp (wp_ret ?_)
  cases c₀
  simp_all [bodyPostS, results, Tryd.results37, Exit.thenS]
def catch_M : Nat → Bool := fun i => Nat.testBit 65541 i
def catch_S : S := (.sts [(.chk [] (.c1 (.fld 0) (.t 2))),
    (.chk [] (.c1 (.ldn 3) (.o1 (.fld 0) (.t 2)))),
    (.set 16 (.o1 (.ldn 3) (.o1 (.fld 0) (.t 2)))),
    (.eff [] none (.store 3) [(.t 0), (.t 16)] [])])
theorem catch_panicking (fb : Nat) (f : Flt) (w : World) (h1 : hsz w.heap fb = 3) (h2 : hfr w.heap fb = (0, 0)) (h3 : fb < w.heap.size) :
    CallsD Tryd.prog 37 #[.pointer (some ⟨fb, 0, none⟩)] (.panicking (gu f)) w fun e u' w' =>
      e = .returned (.tuple #[]) ∧ u' = .panicking [{ v := .iface 90 (fltV f), recovered := true }] ∧ Keep w w' ∧ w'.heap = hsets (w.heap.push (.cells #[.int .i64 f.1, .int .i64 0, .int .i64 f.2] 90)) fb 0 [.int .i64 f.1, .int .i64 0, .int .i64 f.2] := by
  refine callsD_of_wpS Tryd.func37 rfl fun c₀ cs hu => ?_
  apply wpS_seq
  apply wpS_region
  simp [wpOpsS, go_sem, recoverD, hu, Tryd.ntmps37, Exit.thenS, gu]
  apply wpS_seq
  apply wpS_seq
  apply wpS_region
  simp [wpOpsS, go_sem, Exit.thenS]
  refine wpS_cond (t := false) (by simp [Act.eval, Array.replicate]) ?_
  simp only [Bool.false_eq_true, if_false]
  refine wpS_of_wp (wp_skip ?_)
  show Code.wpS _ _ _ _ _ _
  apply wpS_seq
  apply wpS_region
  simp [wpOpsS, go_sem, Exit.thenS, ta_hold, fltV]
  apply wpS_seq
  apply wpS_seq
  apply wpS_region
  simp [wpOpsS, go_sem, Exit.thenS]
  refine wpS_cond (t := false) (by simp [Act.eval, Array.replicate]) ?_
  simp only [Bool.false_eq_true, if_false]
  refine wpS_of_wp (wp_skip ?_)
  show Code.wpS _ _ _ _ _ _
  letI : DS := ⟨[]⟩
  refine wpS_of_wp (wp_mono (comp_sound (G := fun _ _ _ _ _ => False) (lv := catch_M) (N := 17) (fun _ _ _ _ _ h => h.elim) mixed _ catch_S (fun e _ h' => e = .normal ∧ h' = hsets (w.heap.push (.cells #[.int .i64 f.1, .int .i64 0, .int .i64 f.2] 90)) fb 0 [.int .i64 f.1, .int .i64 0, .int .i64 f.2]) _ _ _ _ (by kernel_rfl) (rel_self (by simp) rfl) (Keep.refl _) ?_) ?_)
  · generalize hσ : (fun i => _ : Nat → Value) = σ
    have e0 : σ 0 = .pointer (some ⟨fb, 0, none⟩) := by rw [← hσ]; simp
    have e2 : σ 2 = .pointer (some ⟨w.heap.size, 0, none⟩) := by rw [← hσ]; simp
    clear hσ
    obtain ⟨h', hh'⟩ : ∃ h', h' = w.heap.push (.cells #[.int .i64 f.1, .int .i64 0, .int .i64 f.2] 90) := ⟨_, rfl⟩
    have B := Blk.new (u := fun _ => 0) (h := w.heap) [.int .i64 f.1, .int .i64 0, .int .i64 f.2] 90
    show wpS _ _ _ _ (w.heap.push (.cells #[.int .i64 f.1, .int .i64 0, .int .i64 f.2] 90))
    have g1 : hsz h' fb = 3 := by rw [hh']; simp only [e_hszp, h1, h3]
    have g2 : hfr h' fb = (0, 0) := by rw [hh']; simp only [e_hfrp, h2, h3]
    rw [← hh']
    have B' : Blk (ub (fun _ => 0) w.heap.size 0) h' w.heap.size [.int .i64 f.1, .int .i64 0, .int .i64 f.2] := by rw [hh']; exact B
    simp (disch := first | omega | (simp only [e_ssz, e_psz, e_hszs, List.length_cons, List.length_nil]; try omega; done)) only [↓reduceIte, go_sem, catch_S, e0, e2, B'.at, B'.2.1, g1, g2]
  · intro e a w' hq
    cases e with
    | normal =>
      obtain ⟨hk, σ, R, -, hh⟩ := hq
      exact ⟨R.df, _, rfl, .tuple #[], by simp [results, Tryd.results37, go_sem], rfl, rfl, ⟨hk.os, hk.tape, hk.output⟩, hh⟩
    | panic c => exact absurd hq.2.2.1 (by simp)
    | outgrown => exact hq.elim
    | _ => obtain ⟨_, _, _, q, _⟩ := hq; cases q
theorem keep_of {w w1 w2 : World} (h : Keep w w1) (k : Keep w1 w2) : Keep w w2 := h.trans k
/-! The parts of guarded. -/
def g_M5 : Nat → Bool := fun i => Nat.testBit 2228339 i
def g_S0 : S := (.sts [(.eff [] (some 4) (.alloc 27 #[(.int .i64 0), (.int .i64 0), (.int .i64 0)]) [] [])])
def g_S1 : S := (.seq (.sts [(.chk [] (.c1 .lens (.t 0))),
    (.chk [] (.c2 (.bin .gtr) (.o1 .lens (.t 0)) (.c (.int .i64 65536)))),
    (.set 9 (.o2 (.bin .gtr) (.o1 .lens (.t 0)) (.c (.int .i64 65536))))]) (.cond 9 (.seq (.sts [(.chk [] (.cb 3 [(0, (1, (.c (.int .i64 1))))])),
    (.eff [] none (.store 3) [(.t 4), (.o2 (.put 0 1) (.c (.agg #[(.int .i64 0), (.int .i64 0), (.int .i64 0)])) (.c (.int .i64 1)))] [])]) .ret) .skip))
def g_S3 : S := (.sts [(.eff [] (some 14) (.call 38) [(.t 0)] []),
    (.chk [] (.c1 (.ext 0) (.t 14))),
    (.chk [] (.c1 (.ext 1) (.t 14))),
    (.eff [] (some 6) (.alloc 27 #[(.int .i64 0), (.int .i64 0), (.int .i64 0)]) [] []),
    (.set 5 (.o1 (.ext 0) (.t 14))),
    (.eff [] none (.store 3) [(.t 6), (.o1 (.ext 1) (.t 14))] [])])
def g_L5 : List St := [(.set 17 (.t 1)), (.chk [] (.c1 (.ldn 3) (.t 6))),
    (.chk [] (.cb 5 [(0, (1, (.t 5))), (2, (3, (.o1 (.ldn 3) (.t 6))))])),
    (.set 20 (.o2 (.put 2 3) (.o2 (.put 0 1) (.c (.agg #[(.slice none 0 0), (.int .i64 0), (.int .i64 0), (.int .i64 0), (.int .i64 0)])) (.t 5)) (.o1 (.ldn 3) (.t 6)))),
    (.eff [] (some 21) (.box 96) [(.t 20)] [])]
def g_S6 : S := (.seq (.sts [(.chk [] (.cb 3 [])),
    (.eff [] none (.store 3) [(.t 4), (.c (.agg #[(.int .i64 0), (.int .i64 0), (.int .i64 0)]))] [])]) .ret)
def C_guarded (vs : List Value) (h : H) (K : Value → H → Prop) : Prop := ∃ (u : U) (src : List UInt8) (g : FuncId) (cap : List Value) (Sx : Nat → Prop), vs = [str src, .func (.func g) #[] cap.toArray] ∧ src.length ≤ 9223372036854775807 ∧ LxG u h ∧ (∀ b, Sx b → b < h.size) ∧
  (65536 < src.length → ∀ u' h', Step S0 u h u' h' → K (fltV (1, 0)) h') ∧
  (src.length ≤ 65536 → ∀ u' h' rb fb sl, Step S0 u h u' h' → h.size ≤ rb → h.size ≤ fb → fb ≠ rb → fb < h'.size → RdB u' h' rb sl (scanF src).1 ((scanF src).2.1, ((scanF src).2.2 : Int)) 0 →
    HCX Tryd.prog g (.pointer (some ⟨rb, 0, none⟩) :: cap) h'
      (fun _ h2 => ∃ u2, Step (fun b => b = rb ∨ Sx b) u' h' u2 h2 ∧ ∀ u3 h3, Step (fun b => b = fb) u2 h2 u3 h3 → K (fltV (0, 0)) h3)
      (fun ch h2 => ∃ u2 f, ch = gu f ∧ Step (fun b => b = rb ∨ Sx b) u' h' u2 h2 ∧ ∀ u3 h3, Step (fun b => b = fb) u2 h2 u3 h3 → K (fltV f) h3))
def G_all : Ctr := fun f vs h K KP => HCX Tryd.prog f vs h K KP
theorem G_all_ok : GOk Tryd.prog G_all := fun _ _ _ _ _ h => h
/-- The results, at the end. -/
theorem g_leave {tmps : Array Value} {fb : Nat} {w0 w : World} {u : U} {K : Value → H → Prop} {KP : List PanicEntry → H → Prop} {f : Flt} (hs : tmps.size = 24) (h4 : tmps.getD 4 undef = .pointer (some ⟨fb, 0, none⟩)) (hk : Keep w0 w) (hB : Blk u w.heap fb [.int .i64 f.1, .int .i64 0, .int .i64 f.2]) (hK : K (fltV f) w.heap) :
    Leaves Tryd.prog Tryd.f25 tmps (fun e w' => Keep w0 w' ∧ callK K KP e w'.heap) [] .returning w := by
  have h4' : (fun i => (⟨tmps, []⟩ : Act).tmps.getD i undef) 4 = .pointer (some ⟨fb, 0, none⟩) := h4
  generalize hσ : (fun i => (⟨tmps, []⟩ : Act).tmps.getD i undef) = σ at h4'
  have R : @Rel ⟨[]⟩ psGuarded_M 24 ⟨tmps, []⟩ σ w.heap [] := by rw [← hσ]; exact rel_mk hs rfl
  have hB1 := hB.1
  letI : DS := ⟨[]⟩
  have := res_ok (w := w) R psGuarded_R (by simp (disch := first | omega | (simp only [e_ssz, e_psz, e_hszs, List.length_cons, List.length_nil]; try omega; done)) only [go_sem, psGuarded_E, h4', hB.2.1])
  refine ⟨_, this, hk, ?_⟩
  have hv : one (psGuarded_E.map fun e => val e.2 σ w.heap) = fltV f := by simp (disch := first | omega | (simp only [e_ssz, e_psz, e_hszs, List.length_cons, List.length_nil]; try omega; done)) only [go_sem, psGuarded_E, h4', hB.at, fltV]
  rw [hv]
  exact hK
set_option maxRecDepth 10000 in
theorem psGuarded_ok {vs : List Value} {h : H} {K : Value → H → Prop} {KP : List PanicEntry → H → Prop} (hC : C_guarded vs h K) : HCX Tryd.prog 25 vs h K KP := by
  obtain ⟨u, src, g, cap, Sx, rfl, hl, hG, hSx, hKL, hKR⟩ := hC
  refine .inl ⟨by kernel_rfl, fun w hw => ?_⟩
  subst hw
  refine calls_of_wp_defers Tryd.func25 rfl ?_
  obtain ⟨fnv, hfnv⟩ : ∃ fnv, fnv = Value.func (.func g) #[] cap.toArray := ⟨_, rfl⟩
  rw [← hfnv]
  have s1 := Step.push0 S0 u w.heap #[.int .i64 0, .int .i64 0, .int .i64 0] 27
  have B1 := Blk.new (u := u) (h := w.heap) [.int .i64 0, .int .i64 0, .int .i64 0] 27
  obtain ⟨h1, hh1⟩ : ∃ h1, h1 = w.heap.push (.cells #[.int .i64 0, .int .i64 0, .int .i64 0] 27) := ⟨_, rfl⟩
  obtain ⟨u1, hu1⟩ : ∃ u1, u1 = ub u w.heap.size 0 := ⟨_, rfl⟩
  have B1' : Blk u1 h1 w.heap.size [.int .i64 0, .int .i64 0, .int .i64 0] := by rw [hu1, hh1]; exact B1
  rw [← hh1, ← hu1] at s1
  clear B1
  have hB1 := B1'.1
  obtain ⟨Q0, hQ0⟩ : ∃ Q0 : Post, Q0 = fun e σ h => e = .normal ∧ σ 0 = str src ∧ σ 1 = fnv ∧ σ 4 = .pointer (some ⟨w.heap.size, 0, none⟩) ∧ h = h1 := ⟨_, rfl⟩
  -- the box of the result
  refine wp_seq (wp_mono (comp_at (D := []) (G := G_all) (lv := psGuarded_M) (N := 24) G_all_ok mixed (s := g_S0) (Q := Q0) (by kernel_rfl) (rel_mk (by simp) rfl) ?_) ?_)
  · generalize hσ : (fun i => _ : Nat → Value) = σ
    have e0 : σ 0 = str src := by rw [← hσ]; simp
    have e1 : σ 1 = fnv := by rw [← hσ]; simp
    clear hσ
    simp (disch := first | omega | (simp only [e_ssz, e_psz, e_hszs, List.length_cons, List.length_nil]; try omega; done)) only [go_sem, g_S0, ← hh1]
    rw [hQ0]
    exact ⟨rfl, by simp [upd, e0], by simp [upd, e1], by simp [upd], rfl⟩
  intro e a1 w1 hq
  rw [hQ0] at hq
  cases e with
  | panic c => exact absurd hq.2.2.1 (by simp)
  | outgrown => exact hq.elim
  | normal =>
    obtain ⟨hk1, σ1, R1, -, e0, e1, e4, hw1⟩ := hq
    -- the length
    obtain ⟨Q1, hQ1⟩ : ∃ Q1 : Post, Q1 = fun e σ h => (e = .normal ∧ src.length ≤ 65536 ∧ σ 0 = str src ∧ σ 1 = fnv ∧ σ 4 = .pointer (some ⟨w.heap.size, 0, none⟩) ∧ h = h1) ∨ (e = .ret ∧ 65536 < src.length ∧ σ 4 = .pointer (some ⟨w.heap.size, 0, none⟩) ∧ h = hsets h1 w.heap.size 0 [.int .i64 1, .int .i64 0, .int .i64 0]) := ⟨_, rfl⟩
    refine wp_seq (wp_mono (comp_at (D := []) (G := G_all) (lv := psGuarded_M) (N := 24) G_all_ok mixed (s := g_S1) (Q := Q1) (by kernel_rfl) R1 ?_) ?_)
    · rw [hw1]
      by_cases hlen : 65536 < src.length
      · simp (disch := first | omega | (simp only [e_ssz, e_psz, e_hszs, List.length_cons, List.length_nil]; try omega; done)) only [↓reduceIte, go_sem, g_S1, e0, e4, B1'.2.1, B1'.2.2.1, eq_true (show (65536 : Int) < (src.length : Nat) by omega)]
        rw [hQ1]
        exact .inr ⟨rfl, hlen, by simp [upd, e4], rfl⟩
      · simp (disch := first | omega | (simp only [e_ssz, e_psz, e_hszs, List.length_cons, List.length_nil]; try omega; done)) only [↓reduceIte, go_sem, g_S1, e0, eq_false (show ¬ (65536 : Int) < (src.length : Nat) by omega)]
        rw [hQ1]
        exact .inl ⟨rfl, by omega, by simp [upd, e0], by simp [upd, e1], by simp [upd, e4], rfl⟩
    intro e a2 w2 hq
    rw [hQ1] at hq
    cases e with
    | panic c => rcases hq.2.2 with ⟨q, _⟩ | ⟨q, _⟩ <;> cases q
    | outgrown => exact hq.elim
    | ret =>
      obtain ⟨hk2, σ2, R2, ⟨q, _⟩ | ⟨-, hlen, e4', hw2⟩⟩ := hq
      · cases q
      have B2 := B1'.sets (l := [.int .i64 1, .int .i64 0, .int .i64 0]) rfl
      have s2 := s1.setsR (b := w.heap.size) (o := 0) (l := [.int .i64 1, .int .i64 0, .int .i64 0]) (.inl (Nat.le_refl _)) (by rw [B1'.2.2.2.1]; exact Nat.zero_le _) (by rw [B1'.2.1]; exact Nat.le_refl _)
      rw [← hw2] at s2 B2
      show Leaves _ _ a2.tmps _ a2.defers .returning w2
      rw [rel_df R2]
      exact g_leave (f := (1, 0)) (rel_sz R2) ((rel_get R2 4 rfl).trans e4') (hk1.trans hk2) B2 (hKL hlen _ _ s2)
    | normal =>
      obtain ⟨hk2, σ2, R2, ⟨-, hlen, e0', e1', e4', hw2⟩ | ⟨q, _⟩⟩ := hq
      case inr => cases q
      have t0 : a2.tmps.getD 0 undef = str src := (rel_get R2 0 rfl).trans e0'
      have t1 : a2.tmps.getD 1 undef = fnv := (rel_get R2 1 rfl).trans e1'
      have t4 : a2.tmps.getD 4 undef = .pointer (some ⟨w.heap.size, 0, none⟩) := (rel_get R2 4 rfl).trans e4'
      have tz := rel_sz R2
      have td : a2.defers = [] := rel_df R2
      have t11 : ∀ X, (a2.tmps.setIfInBounds 11 X).getD 11 undef = X := fun X => by simp [tz]
      clear R2 e0' e1' e4'
      refine wp_seq (wp_region_list ?_)
      refine wl_step rfl (v := .func (.func 37) #[] #[.pointer (some ⟨w.heap.size, 0, none⟩)]) (w' := w2) (by simp [execOp, Instr.makeFunc, Act.eval, t4]) ?_
      refine wl_defer rfl (d := ⟨.fn (.func 37) #[.pointer (some ⟨w.heap.size, 0, none⟩)], #[]⟩) (w' := w2) (by simp [execOp, resolve, Deferred.ofValue, Act.eval, Act.put, t11]) ?_
      obtain ⟨D, hD⟩ : ∃ D : List Deferred, D = [⟨.fn (.func 37) #[.pointer (some ⟨w.heap.size, 0, none⟩)], #[]⟩] := ⟨_, rfl⟩
      obtain ⟨a3, ha3⟩ : ∃ a3 : Act, a3 = ⟨a2.tmps.setIfInBounds 11 (.func (.func 37) #[] #[.pointer (some ⟨w.heap.size, 0, none⟩)]), D⟩ := ⟨_, rfl⟩
      have z3 : a3.tmps.size = 24 := by rw [ha3]; simp [tz]
      have d3 : a3.defers = D := by rw [ha3]
      have t30 : a3.tmps.getD 0 undef = str src := by rw [ha3]; simpa [tz, Array.getElem?_setIfInBounds] using t0
      have t31 : a3.tmps.getD 1 undef = fnv := by rw [ha3]; simpa [tz, Array.getElem?_setIfInBounds] using t1
      have t34 : a3.tmps.getD 4 undef = .pointer (some ⟨w.heap.size, 0, none⟩) := by rw [ha3]; simpa [tz, Array.getElem?_setIfInBounds] using t4
      show Code.wp _ _ _ (⟨a2.tmps.setIfInBounds 11 _, _ :: a2.defers⟩ : Act) w2
      rw [td, ← hD, ← ha3]
      letI : DS := ⟨D⟩
      have hk02 : Keep w w2 := hk1.trans hk2
      obtain ⟨L, hL⟩ : ∃ L, L = (scanF src).1 := ⟨_, rfl⟩
      obtain ⟨c, hc⟩ : ∃ c, c = (scanF src).2.1 := ⟨_, rfl⟩
      obtain ⟨p, hp⟩ : ∃ p, p = (scanF src).2.2 := ⟨_, rfl⟩
      have hLl : L.length ≤ 65537 := by rw [hL]; exact scanF_len src
      have hKR' := hKR hlen
      rw [← hL, ← hc, ← hp] at hKR'
      obtain ⟨fb, hfb⟩ : ∃ fb, fb = w.heap.size := ⟨_, rfl⟩
      rw [← hfb] at t34 B1'
      obtain ⟨Q3, hQ3⟩ : ∃ Q3 : Post, Q3 = fun e σ h => e = .normal ∧ σ 1 = fnv ∧ σ 4 = .pointer (some ⟨fb, 0, none⟩) ∧ ∃ (u3 : U) (sl : Value) (b6 : Nat), σ 5 = sl ∧ σ 6 = .pointer (some ⟨b6, 0, none⟩) ∧ Step S0 u w.heap u3 h ∧ Blk u3 h fb [.int .i64 0, .int .i64 0, .int .i64 0] ∧ Blk u3 h b6 [.int .i64 c, .int .i64 0, .int .i64 (p : Int)] ∧ IsSl u3 h sl L := ⟨_, rfl⟩
      refine wp_seq (wp_mono (comp_sound (G := G_all) (lv := psGuarded_M) (N := 24) G_all_ok mixed _ g_S3 Q3 a3 _ w2 w2 (by kernel_rfl) (rel_mk z3 d3) (Keep.refl _) ?_) ?_)
      · generalize hσ : (fun i => a3.tmps.getD i undef) = σ
        have e0 : σ 0 = str src := by rw [← hσ]; exact t30
        have e1 : σ 1 = fnv := by rw [← hσ]; exact t31
        have e4 : σ 4 = .pointer (some ⟨fb, 0, none⟩) := by rw [← hσ]; exact t34
        rw [hw2]
        simp (disch := first | omega | (simp only [e_ssz, e_psz, e_hszs, List.length_cons, List.length_nil]; try omega; done)) only [go_sem, g_S3, e0]
        refine effS_call (lxScan_ok ⟨u1, src, rfl, hl, hG.mono s1.ge, fun u3 h3 v s3 o3 => ⟨by simp (disch := first | omega | (simp only [e_ssz, e_psz, e_hszs, List.length_cons, List.length_nil]; try omega; done)) only [go_sem], ?_⟩⟩)
        rw [← hL] at o3
        rw [← hc, ← hp]
        obtain ⟨h4, h5, u5, hh4, hh5, B4, B5, s5, hz5⟩ := boxed u3 h3 [.int .i64 0, .int .i64 0, .int .i64 0] (fltE c p) 27 rfl
        have st5 := (s1.trans0 s3).trans0 s5
        have Bf := (B1'.step0 s3).step0 s5
        have i5 := o3.isSl.mono s5.ge
        have B41 := B4.1
        simp only [fltE] at hh5 B5 ⊢
        simp (disch := first | omega | (simp only [e_ssz, e_psz, e_hszs, List.length_cons, List.length_nil]; try omega; done)) only [↓reduceIte, go_sem, ← hh4, ← hh5, B4.2.1, B4.2.2.1]
        rw [hQ3]
        exact ⟨rfl, by simp [upd, e1], by simp [upd, e4], u5, v, h3.size, by simp [upd], by simp [upd], st5, Bf, B5, i5⟩
      intro e a4 w4 hq
      rw [hQ3] at hq
      cases e with
      | panic c => exact absurd hq.2.2.1 (by simp)
      | outgrown => exact hq.elim
      | normal =>
        obtain ⟨hk4, σ4, R4, -, e1, e4, u4, sl, b6, e5, e6, st4, Bf4, B64, i4⟩ := hq
        obtain ⟨Q5, hQ5⟩ : ∃ Q5 : Post, Q5 = fun e σ h => e = .normal ∧ σ 4 = .pointer (some ⟨fb, 0, none⟩) ∧ σ 17 = fnv ∧ ∃ (u5 : U) (rb : Nat), σ 21 = .pointer (some ⟨rb, 0, none⟩) ∧ Step S0 u w.heap u5 h ∧ Blk u5 h fb [.int .i64 0, .int .i64 0, .int .i64 0] ∧ RdB u5 h rb sl L (c, (p : Int)) 0 ∧ fb < rb := ⟨_, rfl⟩
        refine wp_seq (wp_region_list ?_)
        show wpList _ _ _ ([_, _, _, _, _] ++ [_]) a4 w4
        refine wpList_app (Q1 := CQ g_M5 24 w4 Q5) ?_ ?_ ?_ _ _ _ (compL_sound (G := G_all) (lv := g_M5) (N := 24) G_all_ok _ [] g_L5 a4 _ w4 (by kernel_rfl) (rel_mk (rel_sz R4) (rel_df R4)) (Keep.refl _) ?_)
        · intro a5 w5 hq
          rw [hQ5] at hq
          obtain ⟨hk5, σ5, R5, -, f4, f17, u5, rb, f21, st5, Bf5, hR5, hlt5⟩ := hq
          have g4 : a5.tmps.getD 4 undef = .pointer (some ⟨fb, 0, none⟩) := (rel_get R5 4 rfl).trans f4
          have g17 : a5.tmps.getD 17 undef = fnv := (rel_get R5 17 rfl).trans f17
          have g21 : a5.tmps.getD 21 undef = .pointer (some ⟨rb, 0, none⟩) := (rel_get R5 21 rfl).trans f21
          have z5 := rel_sz R5
          have d5 := rel_df R5
          have hk05 : Keep w w5 := (hk02.trans hk4).trans hk5
          have hBf5 := Bf5.1
          have hH := hKR' u5 w5.heap rb fb sl st5 (by rw [← hfb]; omega) (by rw [hfb]; exact Nat.le_refl _) (by omega) Bf5.1 hR5
          have hcat : ∀ (fr : Flt) (w6 : World) (u6 : U), Keep w w6 → Blk u6 w6.heap fb [.int .i64 fr.1, .int .i64 0, .int .i64 fr.2] → K (fltV fr) w6.heap → ∀ tmps : Array Value, tmps.size = 24 → tmps.getD 4 undef = .pointer (some ⟨fb, 0, none⟩) →
              Leaves Tryd.prog Tryd.f25 tmps (fun e w' => Keep w w' ∧ callK K KP e w'.heap) [] .returning w6 := fun fr w6 u6 hk hB hK tmps hs ht => g_leave (f := fr) hs ht hk hB hK
          have hinv : ∀ w6 : World, (invoke (.fn (.func 37) #[.pointer (some ⟨w.heap.size, 0, none⟩)]) #[]).run Tryd.prog w6 = .ok (.enter 37 #[.pointer (some ⟨fb, 0, none⟩)]) w6 := fun w6 => by
            rw [← hfb]
            have hf := Tryd.func37
            have hb : Tryd.f37.body.isSome = true := by kernel_rfl
            have hn : (Tryd.f37.name != "runtime.NumGoroutine") = true := by kernel_rfl
            obtain ⟨bd, hbd⟩ := Option.isSome_iff_exists.1 hb
            simp only [bne_iff_ne, ne_eq] at hn
            simp [invoke, callFunc, hf, hn, hbd]
          unfold wpList
          rw [if_pos (by unfold Region.wanted; rfl)]
          refine .inl (tr_says (P := Tryd.prog) (k := .ef .callv [.tmp 17, .tmp 21]) (by kernel_rfl) G_all G_all_ok a5 w5 _ _ (fun _ h2 => ∃ u2, Step (fun b => b = rb ∨ Sx b) u5 w5.heap u2 h2 ∧ ∀ u3 h3, Step (fun b => b = fb) u2 h2 u3 h3 → K (fltV (0, 0)) h3)
            (fun ch h2 => ∃ u2 f, ch = gu f ∧ Step (fun b => b = rb ∨ Sx b) u5 w5.heap u2 h2 ∧ ∀ u3 h3, Step (fun b => b = fb) u2 h2 u3 h3 → K (fltV f) h3) ?_ ?_ ?_)
          · simp only [List.map_cons, List.map_nil, Act.eval, g17, g21, hfnv, fpre]
            simpa [G_all] using hH
          · rintro v w6 hk6 ⟨u6, s6, hK6⟩
            have Bf6 := Bf5.step s6 (fun q => q.elim (by omega) (fun q => by have := hSx _ q; omega))
            have hBf6 := Bf6.1
            have B7 := Bf6.sets (l := [.int .i64 0, .int .i64 0, .int .i64 0]) rfl
            have s7 := Step.sets (S := fun b => b = fb) u6 w6.heap (b := fb) (o := 0) [.int .i64 0, .int .i64 0, .int .i64 0] rfl (by rw [Bf6.2.2.2.1]; exact Nat.zero_le _) (by rw [Bf6.2.1]; exact Nat.le_refl _)
            have hK7 := hK6 _ _ s7
            obtain ⟨a6, ha6⟩ : ∃ a6, a6 = a5.put (some 22) v := ⟨_, rfl⟩
            have z6 : a6.tmps.size = 24 := by rw [ha6]; simp [Act.put, z5]
            have d6 : a6.defers = D := by rw [ha6]; exact d5
            have t64 : a6.tmps.getD 4 undef = .pointer (some ⟨fb, 0, none⟩) := by rw [ha6]; simpa [Act.put, z5, Array.getElem?_setIfInBounds] using g4
            rw [← ha6]
            obtain ⟨Q6, hQ6⟩ : ∃ Q6 : Post, Q6 = fun e σ h => e = .ret ∧ σ 4 = .pointer (some ⟨fb, 0, none⟩) ∧ h = hsets w6.heap fb 0 [.int .i64 0, .int .i64 0, .int .i64 0] := ⟨_, rfl⟩
            show Code.wp _ _ _ a6 w6
            refine wp_mono (comp_sound (G := G_all) (lv := psGuarded_M) (N := 24) G_all_ok mixed _ g_S6 Q6 a6 _ w6 w6 (by kernel_rfl) (rel_mk z6 d6) (Keep.refl _) ?_) ?_
            · generalize hσ : (fun i => a6.tmps.getD i undef) = σ
              have e4 : σ 4 = .pointer (some ⟨fb, 0, none⟩) := by rw [← hσ]; exact t64
              simp (disch := first | omega | (simp only [e_ssz, e_psz, e_hszs, List.length_cons, List.length_nil]; try omega; done)) only [↓reduceIte, go_sem, g_S6, e4, Bf6.2.1, Bf6.2.2.1]
              rw [hQ6]
              exact ⟨rfl, e4, rfl⟩
            intro e a7 w7 hq
            rw [hQ6] at hq
            cases e with
            | panic c => exact absurd hq.2.2.1 (by simp)
            | outgrown => exact hq.elim
            | ret =>
              obtain ⟨hk7, σ7, R7, -, e4, hw7⟩ := hq
              show Leaves _ _ a7.tmps _ a7.defers .returning w7
              rw [rel_df R7, hD]
              refine leaves_cons (by simp) (hinv w7) ((catch_idle _ w7).mono ?_)
              rintro e u' w8 ⟨rfl, rfl, rfl⟩
              rw [← hw7] at B7 hK7
              exact hcat (0, 0) w8 u6 ((hk05.trans hk6).trans hk7) B7 hK7 a7.tmps (rel_sz R7) ((rel_get R7 4 rfl).trans e4)
            | _ => obtain ⟨_, _, _, q, _⟩ := hq; cases q
          · rintro ch w6 hk6 ⟨u6, f, rfl, s6, hK6⟩
            have Bf6 := Bf5.step s6 (fun q => q.elim (by omega) (fun q => by have := hSx _ q; omega))
            show Leaves _ _ a5.tmps _ a5.defers (.panicking (gu f)) w6
            rw [d5]
            show Leaves _ _ a5.tmps _ D (.panicking (gu f)) w6
            rw [hD]
            have s7 := Step.push0 (fun b => b = fb) u6 w6.heap #[.int .i64 f.1, .int .i64 0, .int .i64 f.2] 90
            have Bf7 := Bf6.step0 (Step.push0 S0 u6 w6.heap #[.int .i64 f.1, .int .i64 0, .int .i64 f.2] 90)
            have B8 := Bf7.sets (l := [.int .i64 f.1, .int .i64 0, .int .i64 f.2]) rfl
            have s8 := s7.setsR (b := fb) (o := 0) (l := [.int .i64 f.1, .int .i64 0, .int .i64 f.2]) (.inr rfl) (by rw [Bf7.2.2.2.1]; exact Nat.zero_le _) (by rw [Bf7.2.1]; exact Nat.le_refl _)
            have hK8 := hK6 _ _ s8
            refine leaves_cons (by simp) (hinv w6) ((catch_panicking fb f w6 Bf6.2.1 Bf6.2.2.1 Bf6.1).mono ?_)
            rintro e u' w8 ⟨rfl, rfl, hk8, hw8⟩
            rw [← hw8] at B8 hK8
            show Leaves _ _ a5.tmps _ [] (settle _) w8
            exact hcat f w8 _ ((hk05.trans hk6).trans hk8) B8 hK8 a5.tmps z5 g4
        · intro ch a5 w5 hq
          rw [hQ5] at hq
          exact absurd hq.2.2.1 (by simp)
        · rintro ⟨_, _, hq⟩; exact hq.elim
        · generalize hσ : (fun i => a4.tmps.getD i undef) = σ
          have e1' : σ 1 = fnv := by rw [← hσ]; exact (rel_get R4 1 rfl).trans e1
          have e4' : σ 4 = .pointer (some ⟨fb, 0, none⟩) := by rw [← hσ]; exact (rel_get R4 4 rfl).trans e4
          have e5' : σ 5 = sl := by rw [← hσ]; exact (rel_get R4 5 rfl).trans e5
          have e6' : σ 6 = .pointer (some ⟨b6, 0, none⟩) := by rw [← hσ]; exact (rel_get R4 6 rfl).trans e6
          obtain ⟨sa, sc, rfl, m1, m2⟩ := i4.sl
          have sp := Step.push0 S0 u4 w4.heap #[.slice sa L.length sc, .int .i64 0, .int .i64 c, .int .i64 0, .int .i64 (p : Int)] 96
          have Bn := Blk.new (u := u4) (h := w4.heap) [.slice sa L.length sc, .int .i64 0, .int .i64 c, .int .i64 0, .int .i64 (p : Int)] 96
          have Bf5 := Bf4.step0 sp
          have i5 := i4.mono sp.ge
          have hB64 := B64.1
          have hBf4 := Bf4.1
          simp (disch := first | omega | (simp only [e_ssz, e_psz, e_hszs, List.length_cons, List.length_nil]; try omega; done)) only [↓reduceIte, go_sem, g_L5, e1', e5', e6', B64.at, B64.2.1]
          rw [hQ5]
          exact ⟨rfl, by simp [upd, e4'], by simp [upd], _, w4.heap.size, by simp [upd], st4.trans0 sp, Bf5, ⟨Bn, Nat.zero_le _, i5, hLl⟩, by omega⟩
      | _ => obtain ⟨_, _, _, q, _⟩ := hq; cases q
    | _ => obtain ⟨_, _, _, ⟨q, _⟩ | ⟨q, _⟩⟩ := hq <;> cases q
  | _ => obtain ⟨_, _, _, q, _⟩ := hq; cases q
end Go.Proofs.YtlenjlidahnklaaDoor
