/- What lex's Each does, whatever is done with the tokens. -/
import Derived.Test.YtlenjlidahnklaaDoorLexX
namespace Edict
/-- How many tokens are handed over, and the fault. -/
def eachF (go : Nat → Bool) (fl : Int × Nat) : Nat → List Tok → Nat × Int × Nat
  | i, [] => (i, fl)
  | i, _ :: r => if go i then eachF go fl (i + 1) r else (i + 1, 0, 0)
theorem txt_bad_ne {s : List UInt8} {o i : Nat} {acc : List UInt8} {c : Int} {p : Nat} (h : txtF s o i acc = .bad c p) : c ≠ 0 := by
  unfold txtF at h
  split at h
  · split at h
    · cases h
    · split at h
      · split at h
        · cases h; decide
        · split at h
          · cases h; decide
          · exact txt_bad_ne h
      · split at h
        · cases h; decide
        · exact txt_bad_ne h
  · cases h; decide
termination_by s.length - i
decreasing_by all_goals first | omega | (have := esc_len s i; omega)
theorem int_bad_ne {s : List UInt8} {o b : Nat} {c : Int} {p : Nat} (h : intF s o b = .bad c p) : c ≠ 0 := by
  unfold intF at h
  repeat' split at h
  all_goals first | (cases h; done) | (cases h; decide)
theorem word_bad_ne {s : List UInt8} {o : Nat} {c : Int} {p : Nat} (h : wordF s o = .bad c p) : c ≠ 0 := by
  unfold wordF at h
  repeat' split at h
  all_goals first | (cases h; done) | (cases h; decide)
theorem find_bad_ne {s : List UInt8} {o : Nat} {c : Int} {p : Nat} : ∀ {l : List Sg}, findSg s o l = .bad c p → c ≠ 0
  | [], h => by cases h; decide
  | x :: r, h => by
    unfold findSg at h
    split at h
    · cases h
    · exact find_bad_ne h
end Edict
namespace Go.Ev
open Go
section
variable {h : H}
theorem e_nilf {fn : Fn} {a b : Array Value} {neg : Bool} : v2 (.eqn .func neg) (.func fn a b) .nilFunc h = .bool neg := by cases neg <;> simp [v2, nil?]
theorem e_nilfc {fn : Fn} {a b : Array Value} {neg : Bool} : s2 (.eqn .func neg) (.func fn a b) .nilFunc h = True := by simp [s2, nil?]
theorem e_nilf2 {neg : Bool} : v2 (.eqn .func neg) .nilFunc .nilFunc h = .bool (!neg) := by cases neg <;> simp [v2, nil?]
theorem e_nilf2c {neg : Bool} : s2 (.eqn .func neg) .nilFunc .nilFunc h = True := by simp [s2, nil?]
end
end Go.Ev
namespace Go.Proofs.YtlenjlidahnklaaDoor
open Go Go.Ev Edict
theorem tok_bad_ne {s : List UInt8} {o : Nat} {c : Int} {p : Nat} (h : tokF s o = .bad c p) : c ≠ 0 := by
  unfold tokF at h
  split at h
  · cases h
  · rename_i ho
    split at h
    · exact int_bad_ne h
    · split at h
      · exact int_bad_ne h
      · split at h
        · exact word_bad_ne h
        · split at h
          · exact txt_bad_ne h
          · rw [sign_find (by omega)] at h; exact find_bad_ne h
theorem next_bad_ne {s : List UInt8} {k : Nat} {c : Int} {p : Nat} (h : nextF s k = .bad c p) : c ≠ 0 := by
  unfold nextF at h
  split at h
  · exact tok_bad_ne h
  · cases h; decide
/-- Inv i O u h: i tokens are handed over; the blocks of O are the taker's own. -/
def C_each (Y : Ctr) (vs : List Value) (h : H) (K : Value → H → Prop) : Prop := ∃ (u : U) (s : List UInt8) (fv : Value) (go : Nat → Bool) (O : Nat → Prop) (Inv : Nat → (Nat → Prop) → U → H → Prop), vs = [str s, fv] ∧ s.length ≤ 9223372036854775807 ∧ LxG u h ∧ Inv 0 O u h ∧
  (∀ i O u1 h1, Inv i O u1 h1 → ∀ b, O b → b < h1.size) ∧
  (∀ i O T u1 h1 u2 h2, Inv i O u1 h1 → Step T u1 h1 u2 h2 → (∀ b, O b → ¬ T b) → Inv i O u2 h2) ∧
  ((fv = .nilFunc ∧ (∀ i, go i = true) ∧ ∀ i O u1 h1, Inv i O u1 h1 → Inv (i + 1) O u1 h1) ∨ ∃ g cap, fv = .func (.func g) #[] (List.toArray cap) ∧
    ∀ (i : Nat) (t : Tok) O u1 h1 Q QP, (scanF s).1[i]? = some t → Inv i O u1 h1 → LxG u1 h1 → (∀ O2 u2 h2, Step O u1 h1 u2 h2 → Inv (i + 1) O2 u2 h2 → (∀ b, O2 b → O b ∨ h1.size ≤ b) → Q (.bool (go i)) h2) → Y g (.agg (tokE t).toArray :: cap) h1 Q QP) ∧
  ∀ u' h' O' m c o, Step O u h u' h' → Inv m O' u' h' → (∀ b, O' b → O b ∨ h.size ≤ b) → eachF go (scanF s).2 0 (scanF s).1 = (m, c, o) → K (.agg (fltE c o).toArray) h'
def G_lxEach (Y : Ctr) : Ctr := fun f vs h K KP => (f = 47 ∧ C_tok LxG nextF (fun _ _ => True) vs h K) ∨ Y f vs h K KP
theorem G_lxEach_ok {Y : Ctr} (hY : GOk Tryd.prog Y) : GOk Tryd.prog (G_lxEach Y) := by
  rintro f vs h K KP (⟨rfl, hC⟩ | hC)
  · exact lxNext_ok hC
  · exact hY _ _ _ _ _ hC
theorem lxEach_ok {Y : Ctr} (hY : GOk Tryd.prog Y) {vs : List Value} {h : H} {K : Value → H → Prop} {KP : List PanicEntry → H → Prop} (hC : C_each Y vs h K) : HCX Tryd.prog 44 vs h K KP := by
  obtain ⟨u, s, fv, go, S, Inv, rfl, hmax, hG, hI0, hIlt, hfr, hY2, hK⟩ := hC
  have hS := hIlt 0 S u h hI0
  refine lxEach_H (G_lxEach Y) (G_lxEach_ok hY) _ _ ?_
  by_cases hl : 65536 < s.length
  · have hsc : scanF s = ([], 1, 0) := by unfold scanF; rw [if_pos hl]
    rw [hsc] at hK
    simp (disch := first | omega | (simp only [e_ssz, e_psz, e_hszs, List.length_cons, List.length_nil]; try omega; done)) only [↓reduceIte, go_sem, lxEach_S, lxEach_E, eq_true (show (65536 : Int) < (s.length : Nat) by omega)]
    exact hK _ _ S 0 1 0 (Step.push0 S u h _ _) (hfr 0 S S0 _ _ _ _ hI0 (Step.push0 _ u h _ _) (fun _ _ h => h)) (fun _ h => .inl h) rfl
  have hsc : scanF s = scanK s 0 := by unfold scanF; rw [if_neg hl]; rfl
  rw [hsc] at hK hY2
  have R1 := Blk.new (u := u) (h := h) (fltE 0 0) 27
  have R2 := R1.pushR (c := #[str s, .int .i64 0]) (t := 105)
  have b2 := Blk.new (u := ub u h.size 0) (h := h.push (.cells (fltE 0 0).toArray 27)) [str s, .int .i64 ((0 : Nat) : Int)] 105
  have st2 := ((Step.refl S u h).pushR (c := (fltE 0 0).toArray) (t := 27)).pushR (c := #[str s, .int .i64 0]) (t := 105)
  have sf2 := ((Step.refl S0 u h).pushR (c := (fltE 0 0).toArray) (t := 27)).pushR (c := #[str s, .int .i64 0]) (t := 105)
  have hI2 := hfr 0 S S0 _ _ _ _ hI0 sf2 (fun _ _ h => h)
  simp only [e_psz, fltE] at R2 b2 st2 hI2
  simp (disch := first | omega | (simp only [e_ssz, e_psz, e_hszs, List.length_cons, List.length_nil]; try omega; done)) only [↓reduceIte, go_sem, lxEach_S, lxEach_E, eq_false (show ¬ (65536 : Int) < (s.length : Nat) by omega)]
  obtain ⟨I, hI⟩ : ∃ I : Nat × Nat → Env → H → Prop, I = fun x σ h' => σ 1 = fv ∧ σ 4 = .pointer (some ⟨h.size, 0, none⟩) ∧ σ 5 = .pointer (some ⟨h.size + 1, 0, none⟩) ∧ x.1 ≤ s.length ∧
      (∃ pre, pre.length = x.2 ∧ (scanK s 0).1 = pre ++ (scanK s x.1).1) ∧ eachF go (scanK s 0).2 0 (scanK s 0).1 = eachF go (scanK s x.1).2 x.2 (scanK s x.1).1 ∧
      ∃ u' O, Step S u h u' h' ∧ Rdr u' h' (h.size + 1) s x.1 ∧ Blk u' h' h.size (fltE 0 0) ∧ Inv x.2 O u' h' ∧ (∀ b, O b → S b ∨ h.size + 2 ≤ b) := ⟨_, rfl⟩
  refine wpS_loop I (fun x => s.length - x.1) (0, 0) (by
    rw [hI]
    exact ⟨by simp [upd], by simp [upd], by simp [upd], by simp, ⟨[], rfl, rfl⟩, rfl, _, S, st2, b2, R2, hI2, fun _ h => .inl h⟩) ?_
  clear R1 R2 b2 st2 sf2 hI2
  rintro ⟨k, i⟩ σ h1 hy
  rw [hI] at hy
  obtain ⟨e1, e4, e5, hk, ⟨pre, hpl, hpre⟩, hef, u1, O, st, b, R, hInv, hO⟩ := hy
  simp only at hk hpl hpre hef b hInv
  have b01 := b.1; have R01 := R.1
  have hG1 := hG.mono st.ge
  have hOn : ∀ b, O b → b ≠ h.size ∧ b ≠ h.size + 1 := fun b hb => by
    rcases hO b hb with q | q
    · have := hS b q; omega
    · omega
  simp (disch := first | omega | (simp only [e_ssz, e_psz, e_hszs, List.length_cons, List.length_nil]; try omega; done)) only [go_sem, lxEach_L1, e5]
  refine effS_call (.inl ⟨rfl, u1, _, s, k, rfl, b, hk, by omega, trivial, hG1, fun u3 h3 s3 hr3 => ?_⟩)
  have hI3 := hfr i O _ _ _ _ _ hInv s3 (fun b hb hq => (hOn b hb).2 hq)
  have R3 := R.step s3 (by omega)
  have st3 := st.trans s3 (fun q _ h => by omega)
  have hlt3 := hIlt i O _ _ hI3
  have R31 := R3.1
  have R32 := R3.2.1
  simp only [fltE, List.length_cons, List.length_nil] at R32
  -- the result's block is written, and all is over
  have fin : ∀ (u4 : U) (h4 : H) (O4 : Nat → Prop) (m : Nat) (c : Int) (o : Nat) (oi : Int), oi = (o : Int) → Step S u h u4 h4 → Blk u4 h4 h.size (fltE 0 0) → Inv m O4 u4 h4 → (∀ b, O4 b → S b ∨ h.size + 2 ≤ b) → eachF go (scanK s 0).2 0 (scanK s 0).1 = (m, c, o) →
      (hsets h4 h.size 0 (fltE c oi)).size = h4.size ∧ Blk u4 (hsets h4 h.size 0 (fltE c oi)) h.size (fltE c oi) ∧ ∀ u5 h5, Step S0 u4 (hsets h4 h.size 0 (fltE c oi)) u5 h5 → K (.agg (fltE c oi).toArray) h5 := by
    intro u4 h4 O4 m c o oi ho q1 q2 q3 q5 q4
    subst ho
    have w1 := q1.setsR (b := h.size) (o := 0) (l := fltE c o) (.inl (Nat.le_refl _)) (by rw [q2.2.2.2.1]; exact Nat.zero_le _) (by rw [q2.2.1]; exact Nat.le_refl _)
    have w2 := Step.sets (S := fun b => b = h.size) u4 h4 (b := h.size) (o := 0) (fltE c o) rfl (by rw [q2.2.2.2.1]; exact Nat.zero_le _) (by rw [q2.2.1]; exact Nat.le_refl _)
    have hq : ∀ b, O4 b → ¬ b = h.size := fun b hb e => by
      rcases q5 b hb with q | q
      · have := hS b q; omega
      · omega
    exact ⟨hsets_size _ _ _ _, q2.sets rfl, fun u5 h5 s5 => hK _ _ O4 m c o (w1.trans0 s5) (hfr m O4 _ _ _ _ _ q3 (w2.trans0 s5) hq) (fun b hb => (q5 b hb).imp id fun q => by omega) q4⟩
  cases hn : nextF s k with
  | bad c o =>
    have hc := next_bad_ne hn
    rw [scanK_bad hn] at hef
    obtain ⟨f0, f1, f2⟩ := fin _ _ O i c o o rfl st3 R3 hI3 hO hef
    refine ⟨by simp (disch := first | omega | (simp only [e_ssz, e_psz, e_hszs, List.length_cons, List.length_nil]; try omega; done)) only [go_sem], ?_⟩
    simp only [resV, tok0, fltE]
    simp only [fltE] at f0 f1 f2
    have f11 := f1.1
    simp (disch := first | omega | (simp only [e_ssz, e_psz, e_hszs, List.length_cons, List.length_nil]; try omega; done)) only [↓reduceIte, go_sem, e4, eq_false (show ¬ c = 0 from hc), R32, R3.2.2.1, f1.at, f1.2.1]
    exact f2 _ _ (by repeat (first | exact Step.refl _ _ _ | assumption | apply Step.pushR))
  | ok t =>
    obtain ⟨tc, tv, tn, tp, to, te, rfl, q1, q2, q3, q4⟩ := next_ok hk hn
    obtain ⟨t, ht⟩ : ∃ t : Tok, t = (tc, tv, tn, tp, (to : Int), (te : Int)) := ⟨_, rfl⟩
    have b3 := hr3 _ hn
    simp only [Int.toNat_natCast] at b3
    have hsk : scanK s k = (t :: (if tc = 0 then [] else (scanK s te).1), if tc = 0 then (0, 0) else (scanK s te).2) := by
      by_cases h0 : tc = 0
      · rw [scanK_end hn h0, if_pos h0, if_pos h0, ht]
      · rw [scanK_on hk hn h0, if_neg h0, if_neg h0, ht]; rfl
    have hti : (scanK s 0).1[i]? = some t := by rw [hpre, hsk, ← hpl]; simp
    rw [hsk] at hef
    have hef2 : eachF go (scanK s 0).2 0 (scanK s 0).1 = if go i then eachF go (if tc = 0 then (0, 0) else (scanK s te).2) (i + 1) (if tc = 0 then [] else (scanK s te).1) else (i + 1, 0, 0) := hef
    have T4 := (Blk.new (u := u3) (h := h3) (tokE t) 80).pushR (c := (fltE 0 0).toArray) (t := 27)
    have R4 := (R3.pushR (c := (tokE t).toArray) (t := 80)).pushR (c := (fltE 0 0).toArray) (t := 27)
    have b4 := (b3.pushR (c := (tokE t).toArray) (t := 80)).pushR (c := (fltE 0 0).toArray) (t := 27)
    have st4 := (st3.pushR (c := (tokE t).toArray) (t := 80)).pushR (c := (fltE 0 0).toArray) (t := 27)
    have sp4 := ((Step.refl S0 u3 h3).pushR (c := (tokE t).toArray) (t := 80)).pushR (c := (fltE 0 0).toArray) (t := 27)
    have hI4 := hfr i O _ _ _ _ _ hI3 sp4 (fun _ _ h => h)
    refine ⟨by simp (disch := first | omega | (simp only [e_ssz, e_psz, e_hszs, List.length_cons, List.length_nil]; try omega; done)) only [go_sem], ?_⟩
    obtain ⟨h4, hh4⟩ : ∃ h4, h4 = (h3.push (.cells (tokE t).toArray 80)).push (.cells (fltE 0 0).toArray 27) := ⟨_, rfl⟩
    have hs4 : h4.size = h3.size + 2 := by rw [hh4]; simp
    obtain ⟨u4, hu4⟩ : ∃ u4, u4 = ub (ub u3 h3.size 0) (h3.size + 1) 0 := ⟨_, rfl⟩
    simp only [e_psz] at T4 R4 b4 st4 sp4 hI4
    rw [← hh4, ← hu4] at T4 R4 b4 st4 sp4 hI4
    have G4 := hG.mono st4.ge
    -- behind the yield
    have tail : ∀ (σ' : Env) (O5 : Nat → Prop) (u5 : U) (h5 : H), σ' 1 = fv → σ' 4 = .pointer (some ⟨h.size, 0, none⟩) → σ' 5 = .pointer (some ⟨h.size + 1, 0, none⟩) → σ' 6 = .pointer (some ⟨h3.size, 0, none⟩) → Step O u4 h4 u5 h5 → Inv (i + 1) O5 u5 h5 → (∀ b, O5 b → O b ∨ h4.size ≤ b) →
        Blk u5 h5 h3.size (tokE t) ∧ Rdr u5 h5 (h.size + 1) s te ∧ Blk u5 h5 h.size (fltE 0 0) ∧ Step S u h u5 h5 ∧ (∀ b, O5 b → S b ∨ h.size + 2 ≤ b) := by
      intro σ' O5 u5 h5 w1 w4 w5 w6 s5 i5 o5
      have hn3 : ∀ b, O b → b < h3.size := hlt3
      refine ⟨T4.step s5 (fun hq => by have := hn3 _ hq; omega), b4.step s5 (fun hq => (hOn _ hq).2 rfl), R4.step s5 (fun hq => (hOn _ hq).1 rfl), st4.trans s5 (fun b hb hq => ?_), fun b hb => ?_⟩
      · rcases hO b hq with q | q
        · exact q
        · omega
      · rcases o5 b hb with q | q
        · exact hO b q
        · have := st3.ge.sz; omega
    simp only [resV, tokE, fltE] at hh4 ⊢
    simp only [ht] at hh4 ⊢
    simp (disch := first | omega | (simp only [e_ssz, e_psz, e_hszs, List.length_cons, List.length_nil]; try omega; done)) only [↓reduceIte, go_sem, e1, e4]
    rw [← hh4]
    subst ht
    rcases hY2 with ⟨rfl, hgoT, hIn⟩ | ⟨g, cap, rfl, hYY⟩
    · have hgo := hgoT i
      have i5 := hIn i O _ _ hI3
      have i6 := hIn i O _ _ hI4
      subst hh4
      by_cases h0 : tc = 0
      · rw [if_pos hgo, if_pos h0, if_pos h0] at hef2
        obtain ⟨f0, f1, f2⟩ := fin _ _ O (i + 1) 0 0 0 rfl st3 R3 i5 hO hef2
        simp only [fltE] at f0 f1 f2
        have f11 := f1.1
        simp (disch := first | omega | (simp only [e_ssz, e_psz, e_hszs, List.length_cons, List.length_nil]; try omega; done)) only [go_sem, e_nilf2, e_nilf2c, eq_true h0, R3.2.2.1, f1.at, f1.2.1]
        exact f2 _ _ (by repeat (first | exact Step.refl _ _ _ | assumption | apply Step.pushR))
      · rw [if_pos hgo, if_neg h0, if_neg h0] at hef2
        have hlt := q4 h0
        simp (disch := first | omega | (simp only [e_ssz, e_psz, e_hszs, List.length_cons, List.length_nil]; try omega; done)) only [go_sem, e_nilf2, e_nilf2c, eq_false h0]
        refine ⟨(te, i + 1), ?_, by simp only; omega⟩
        rw [hI]
        refine ⟨by simp [upd, e1], by simp [upd, e4], by simp [upd, e5], q2, ⟨pre ++ [(tc, tv, tn, tp, (to : Int), (te : Int))], by simp [hpl], ?_⟩, hef2, u4, O, st4, b4, R4, i6, hO⟩
        rw [hpre, hsk, if_neg h0]; simp
    · simp (disch := first | omega | (simp only [e_ssz, e_psz, e_hszs, List.length_cons, List.length_nil]; try omega; done)) only [go_sem, e_nilf, e_nilfc]
      refine cast (e_callv (first := []) (cap := cap)).symm ?_
      refine .inr (hYY i _ O u4 h4 _ _ hti hI4 G4 fun O5 u5 h5 s5 i5 o5' => ⟨by simp (disch := first | omega | (simp only [e_ssz, e_psz, e_hszs, List.length_cons, List.length_nil]; try omega; done)) only [go_sem], ?_⟩)
      obtain ⟨T5, b5, R5, st5, o5⟩ := tail (fun n => if n = 1 then .func (.func g) #[] cap.toArray else if n = 4 then .pointer (some ⟨h.size, 0, none⟩) else if n = 5 then .pointer (some ⟨h.size + 1, 0, none⟩) else .pointer (some ⟨h3.size, 0, none⟩)) O5 u5 h5 rfl rfl rfl rfl s5 i5 o5'
      cases hgo : go i with
      | true =>
        simp (disch := first | omega | (simp only [e_ssz, e_psz, e_hszs, List.length_cons, List.length_nil]; try omega; done)) only [↓reduceIte, go_sem, e1, e_nilf]
        have T01 := T5.1
        simp only [tokE] at T5
        have R0 := R5.2.1
        have b05 := b5.1; have R05 := R5.1
        simp only [fltE, List.length_cons, List.length_nil] at R0
        by_cases h0 : tc = 0
        · rw [if_pos hgo, if_pos h0, if_pos h0] at hef2
          obtain ⟨f0, f1, f2⟩ := fin _ _ O5 (i + 1) 0 0 0 rfl st5 R5 i5 o5 hef2
          simp only [fltE] at f0 f1 f2
          simp (disch := first | omega | (simp only [e_ssz, e_psz, e_hszs, List.length_cons, List.length_nil]; try omega; done)) only [↓reduceIte, go_sem, e4, T5.at, T5.2.1, eq_true h0, R0, R5.2.2.1, f1.at, f1.2.1]
          exact f2 _ _ (.refl _ _ _)
        · rw [if_pos hgo, if_neg h0, if_neg h0] at hef2
          have hlt := q4 h0
          simp (disch := first | omega | (simp only [e_ssz, e_psz, e_hszs, List.length_cons, List.length_nil]; try omega; done)) only [↓reduceIte, go_sem, e4, T5.at, T5.2.1, eq_false h0]
          refine ⟨(te, i + 1), ?_, by simp only; omega⟩
          rw [hI]
          refine ⟨by simp [upd, e1], by simp [upd, e4], by simp [upd, e5], q2, ⟨pre ++ [(tc, tv, tn, tp, (to : Int), (te : Int))], by simp [hpl], ?_⟩, hef2, u5, O5, st5, b5, R5, i5, o5⟩
          rw [hpre, hsk, if_neg h0]; simp
      | false =>
        rw [if_neg (by rw [hgo]; simp)] at hef2
        have R0 := R5.2.1
        have R05 := R5.1
        simp only [fltE, List.length_cons, List.length_nil] at R0
        obtain ⟨f0, f1, f2⟩ := fin _ _ O5 (i + 1) 0 0 0 rfl st5 R5 i5 o5 hef2
        simp only [fltE] at f0 f1 f2
        simp (disch := first | omega | (simp only [e_ssz, e_psz, e_hszs, List.length_cons, List.length_nil]; try omega; done)) only [↓reduceIte, go_sem, e1, e4, e_nilf, R0, R5.2.2.1, f1.at, f1.2.1]
        exact f2 _ _ (.refl _ _ _)
end Go.Proofs.YtlenjlidahnklaaDoor
