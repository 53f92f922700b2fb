/- The helpers of LexSpelled: wordy, between, wordOK, written, integer, spelling. -/
import Derived.Test.YtbkpmdgeeolifaaDoorLexI
import Derived.Test.YtbkpmdgeeolifaaDoorFmtI
import Derived.Test.YtbkpmdgeeolifaaDoorLawT
import Derived.Test.YtbkpmdgeeolifaaDoorLexL2
namespace Edict
theorem wdB_iff (c : Nat) : wdB c = true ↔ (48 ≤ c ∧ c ≤ 57) ∨ (65 ≤ c ∧ c ≤ 90) ∨ (97 ≤ c ∧ c ≤ 122) ∨ c = 95 := by
  unfold wdB dgB upB loB; simp only [Bool.or_eq_true, Bool.and_eq_true, decide_eq_true_eq]; omega
theorem bgB_iff (c : Nat) : bgB c = true ↔ (65 ≤ c ∧ c ≤ 90) ∨ c = 95 := by unfold bgB upB; simp only [Bool.or_eq_true, Bool.and_eq_true, decide_eq_true_eq]
theorem smB_iff (c : Nat) : smB c = true ↔ 97 ≤ c ∧ c ≤ 122 := by unfold smB loB; simp only [Bool.and_eq_true, decide_eq_true_eq]
theorem wdB_no {c : Nat} (h : ¬ ((48 ≤ c ∧ c ≤ 57) ∨ (65 ≤ c ∧ c ≤ 90) ∨ (97 ≤ c ∧ c ≤ 122) ∨ c = 95)) : wdB c = false := by rw [Bool.eq_false_iff, ne_eq, wdB_iff]; exact h
theorem bgB_no {c : Nat} (h : ¬ ((65 ≤ c ∧ c ≤ 90) ∨ c = 95)) : bgB c = false := by rw [Bool.eq_false_iff, ne_eq, bgB_iff]; exact h
theorem smB_no {c : Nat} (h : ¬ (97 ≤ c ∧ c ≤ 122)) : smB c = false := by rw [Bool.eq_false_iff, ne_eq, smB_iff]; exact h
theorem dec_len : ∀ (n u : Nat), u < 10 ^ (n + 1) → (Go.Lib.decDigits u).length ≤ n + 1
  | 0, u, h => by rw [Go.Lib.decDigits, dif_pos (by simpa using h)]; simp
  | n + 1, u, h => by
    rw [Go.Lib.decDigits]
    split
    · simp
    · have := dec_len n (u / 10) (by rw [Nat.div_lt_iff_lt_mul (by decide)]; rw [Nat.pow_succ] at h; exact h)
      rw [List.length_append, List.length_singleton]; omega
theorem bits_hex {c : Nat} (h : c < 256) : Go.Ev.bitsI .shr .u8 (c : Int) 4 = ((c / 16 : Nat) : Int) ∧ Go.Ev.bitsI .and .u8 (c : Int) 15 = ((c % 16 : Nat) : Int) := by
  have : ∀ c : Fin 256, Go.Ev.bitsI .shr .u8 (c.val : Int) 4 = ((c.val / 16 : Nat) : Int) ∧ Go.Ev.bitsI .and .u8 (c.val : Int) 15 = ((c.val % 16 : Nat) : Int) := by decide +kernel
  exact this ⟨c, h⟩
theorem hex_at {n : Nat} (h : n < 16) : bat [48, 49, 50, 51, 52, 53, 54, 55, 56, 57, 97, 98, 99, 100, 101, 102] n = hexD n := by
  have : ∀ n : Fin 16, bat [48, 49, 50, 51, 52, 53, 54, 55, 56, 57, 97, 98, 99, 100, 101, 102] n.val = hexD n.val := by decide
  exact this ⟨n, h⟩
theorem seg_len (style : Int) (c : UInt8) : (segF style c).length ≤ 4 := by
  unfold segF
  split
  · simp
  · split <;> simp
theorem body_len (style : Int) : ∀ v : List UInt8, (bodyF style v).length ≤ 4 * v.length
  | [] => by simp [bodyF]
  | c :: v => by
    have h1 := seg_len style c
    have h2 := body_len style v
    unfold bodyF at h2 ⊢
    rw [List.flatMap_cons, List.length_append, List.length_cons]; omega
end Edict
namespace Go.Proofs.YtbkpmdgeeolifaaDoor
open Go Go.Ev Edict
def C_wordy (vs : List Value) (h : H) (K : Value → H → Prop) : Prop := ∃ c : Nat, vs = [.int .u8 c] ∧ K (.bool (wdB c)) h
theorem lwWordy_ok {vs : List Value} {h : H} {K : Value → H → Prop} {KP : List PanicEntry → H → Prop} (hC : C_wordy vs h K) : HCX Tryd.prog 41 vs h K KP := by
  obtain ⟨c, rfl, hK⟩ := hC
  refine lwWordy_H (fun _ _ _ _ _ => False) (fun _ _ _ _ _ h => h.elim) _ ?_
  simp (disch := first | omega | (simp only [e_ssz, e_psz, e_hszs, List.length_cons, List.length_nil]; try omega; done)) only [↓reduceIte, go_sem, lwWordy_S, lwWordy_E]
  have e : (decide ((97 : Int) ≤ c) && decide ((c : Int) ≤ 122) || decide ((65 : Int) ≤ c) && decide ((c : Int) ≤ 90) || decide ((48 : Int) ≤ c) && decide ((c : Int) ≤ 57) || decide ((c : Int) = 95)) = wdB c := by
    rw [Bool.eq_iff_iff]
    unfold wdB dgB upB loB
    simp only [Bool.or_eq_true, Bool.and_eq_true, decide_eq_true_eq]
    omega
  rw [e]
  exact hK
def C_betw (vs : List Value) (h : H) (K : Value → H → Prop) : Prop := ∃ (t s : List UInt8) (gap : Int), vs = [str t, str s, .int .i64 gap] ∧ 0 < t.length ∧ 0 < s.length ∧ t.length ≤ 65536 ∧ s.length ≤ 9223372036854775807 ∧ K (str (betF (bat t (t.length - 1)) (bat s 0) gap)) h
def G_betw : Ctr := fun f vs h K _ => f = 41 ∧ C_wordy vs h K
theorem G_betw_ok : GOk Tryd.prog G_betw := by
  rintro f vs h K KP ⟨rfl, hC⟩; exact lwWordy_ok hC
theorem lwBetween_ok {vs : List Value} {h : H} {K : Value → H → Prop} {KP : List PanicEntry → H → Prop} (hC : C_betw vs h K) : HCX Tryd.prog 28 vs h K KP := by
  obtain ⟨t, s, gap, rfl, ht, hs, htl, hsl, hK⟩ := hC
  refine lwBetween_H G_betw G_betw_ok _ _ _ ?_
  unfold betF at hK
  by_cases g1 : gap = 1
  · subst g1
    simp (disch := first | omega | (simp only [e_ssz, e_psz, e_hszs, List.length_cons, List.length_nil]; try omega; done)) only [↓reduceIte, go_sem, lwBetween_S, lwBetween_E]
    exact hK
  rw [if_neg g1] at hK
  by_cases g2 : gap = 2
  · subst g2
    simp (disch := first | omega | (simp only [e_ssz, e_psz, e_hszs, List.length_cons, List.length_nil]; try omega; done)) only [↓reduceIte, go_sem, lwBetween_S, lwBetween_E]
    exact hK
  rw [if_neg g2] at hK
  by_cases g3 : gap = 3
  · subst g3
    simp (disch := first | omega | (simp only [e_ssz, e_psz, e_hszs, List.length_cons, List.length_nil]; try omega; done)) only [↓reduceIte, go_sem, lwBetween_S, lwBetween_E]
    exact hK
  rw [if_neg g3] at hK
  by_cases g4 : gap = 4
  · subst g4
    simp (disch := first | omega | (simp only [e_ssz, e_psz, e_hszs, List.length_cons, List.length_nil]; try omega; done)) only [↓reduceIte, go_sem, lwBetween_S, lwBetween_E]
    exact hK
  rw [if_neg g4] at hK
  have hts : t ≠ [] := fun q => by rw [q] at ht; simp at ht
  have el : ((t.length : Nat) : Int) - 1 = ((t.length - 1 : Nat) : Int) := by omega
  simp (disch := first | omega | (simp only [e_ssz, e_psz, e_hszs, List.length_cons, List.length_nil]; try omega; done)) only [↓reduceIte, go_sem, lwBetween_S, lwBetween_E, g1, g2, g3, g4, eq_false hts, el]
  refine ⟨by omega, effS_call ⟨rfl, bat t (t.length - 1), rfl, ⟨by simp (disch := first | omega | (simp only [e_ssz, e_psz, e_hszs, List.length_cons, List.length_nil]; try omega; done)) only [go_sem], ?_⟩⟩⟩
  cases w1 : wdB (bat t (t.length - 1)) with
  | true =>
    rw [w1] at hK
    simp (disch := first | omega | (simp only [e_ssz, e_psz, e_hszs, List.length_cons, List.length_nil]; try omega; done)) only [↓reduceIte, go_sem, batf]
    refine ⟨by omega, effS_call ⟨rfl, bat s 0, rfl, ⟨by simp (disch := first | omega | (simp only [e_ssz, e_psz, e_hszs, List.length_cons, List.length_nil]; try omega; done)) only [go_sem], ?_⟩⟩⟩
    cases w2 : wdB (bat s 0) with
    | true =>
      rw [w2, if_pos ⟨rfl, rfl⟩] at hK
      simp (disch := first | omega | (simp only [e_ssz, e_psz, e_hszs, List.length_cons, List.length_nil]; try omega; done)) only [↓reduceIte, go_sem]
      exact hK
    | false =>
      rw [w2, if_neg (fun q => by cases q.2)] at hK
      have h60 : ¬ bat t (t.length - 1) = 60 := fun q => by rw [q] at w1; cases w1
      have h62 : ¬ bat t (t.length - 1) = 62 := fun q => by rw [q] at w1; cases w1
      rw [if_neg (fun q => q.1.elim h60 h62)] at hK
      simp (disch := first | omega | (simp only [e_ssz, e_psz, e_hszs, List.length_cons, List.length_nil]; try omega; done)) only [↓reduceIte, go_sem, batf, eq_false (show ¬ ((bat t (t.length - 1) : Nat) : Int) = 60 by omega), eq_false (show ¬ ((bat t (t.length - 1) : Nat) : Int) = 62 by omega)]
      exact hK
  | false =>
    rw [w1, if_neg (fun q => by cases q.1)] at hK
    simp (disch := first | omega | (simp only [e_ssz, e_psz, e_hszs, List.length_cons, List.length_nil]; try omega; done)) only [↓reduceIte, go_sem, batf]
    refine ⟨fun _ => by omega, fun q => ?_, fun q => ?_⟩
    · rw [if_pos ⟨by omega, by omega⟩] at hK; exact hK
    · rw [if_neg (fun q' => q ⟨by omega, by omega⟩)] at hK; exact hK
def C_wordOK (vs : List Value) (h : H) (K : Value → H → Prop) : Prop := ∃ (w : List UInt8) (b : Bool), vs = [str w, .bool b] ∧ w.length ≤ 9223372036854775807 ∧ K (.bool (wordOKF w b)) h
theorem lwWordOK_ok {vs : List Value} {h : H} {K : Value → H → Prop} {KP : List PanicEntry → H → Prop} (hC : C_wordOK vs h K) : HCX Tryd.prog 38 vs h K KP := by
  obtain ⟨w, b, rfl, hl, hK⟩ := hC
  refine lwWordOK_H (fun _ _ _ _ _ => False) (fun _ _ _ _ _ h => h.elim) _ _ ?_
  by_cases hbad : w = [] ∨ 64 < w.length ∨ w = [110, 111, 116]
  · have e : wordOKF w b = false := by
      unfold wordOKF
      rcases hbad with rfl | q | rfl
      · rfl
      · rw [decide_eq_false (show ¬ w.length ≤ 64 by omega)]; simp
      · rfl
    rw [e] at hK
    rcases hbad with rfl | q | rfl
    · simp (disch := first | omega | (simp only [e_ssz, e_psz, e_hszs, List.length_cons, List.length_nil]; try omega; done)) only [↓reduceIte, go_sem, lwWordOK_S, lwWordOK_E]
      exact hK
    · simp (disch := first | omega | (simp only [e_ssz, e_psz, e_hszs, List.length_cons, List.length_nil]; try omega; done)) only [↓reduceIte, go_sem, lwWordOK_S, lwWordOK_E, eq_true (show (64 : Int) < (w.length : Nat) by omega)]
      exact hK
    · simp (disch := first | omega | (simp only [e_ssz, e_psz, e_hszs, List.length_cons, List.length_nil]; try omega; done)) only [↓reduceIte, go_sem, lwWordOK_S, lwWordOK_E]
      exact hK
  have h1 : w ≠ [] := fun q => hbad (.inl q)
  have h2 : w.length ≤ 64 := Decidable.byContradiction fun q => hbad (.inr (.inl (by omega)))
  have h3 : w ≠ [110, 111, 116] := fun q => hbad (.inr (.inr q))
  simp (disch := first | omega | (simp only [e_ssz, e_psz, e_hszs, List.length_cons, List.length_nil]; try omega; done)) only [↓reduceIte, go_sem, lwWordOK_S, lwWordOK_E, eq_false h1, eq_false h3, eq_false (show ¬ (64 : Int) < (w.length : Nat) by omega)]
  have hfalse : ∀ i, i < w.length → wdB (bat w i) = false → wordOKF w b = false := fun i hi hw => by
    unfold wordOKF
    obtain ⟨c, hc, hx⟩ := bat_mem hi
    have : (w.all fun c => wdB c.toNat) = false := by
      rw [List.all_eq_false]; exact ⟨c, hc, by rw [← hx, hw]; simp⟩
    rw [this, Bool.and_false]
  have hfirst : (if b then smB (bat w 0) else bgB (bat w 0)) = false → wordOKF w b = false := fun q => by
    unfold wordOKF; rw [q, Bool.and_false, Bool.false_and]
  have htrue : (if b then smB (bat w 0) else bgB (bat w 0)) = true → (∀ i, i < w.length → wdB (bat w i) = true) → wordOKF w b = true := fun q1 q2 => by
    unfold wordOKF
    have : (w.all fun c => wdB c.toNat) = true := by
      rw [List.all_eq_true]; intro c hc
      obtain ⟨i, hi, rfl⟩ := List.mem_iff_getElem.1 hc
      have := q2 i hi
      unfold bat at this
      rw [List.getD_eq_getElem?_getD, List.getElem?_eq_getElem hi] at this
      exact this
    rw [q1, this, decide_eq_true h1, decide_eq_true h2, decide_eq_true h3]; rfl
  obtain ⟨I, hI⟩ : ∃ I : Nat → Env → H → Prop, I = fun i σ h' => σ 0 = str w ∧ σ 1 = .bool b ∧ σ 5 = .int .i64 i ∧ i ≤ w.length ∧ h' = h ∧ (∀ j, j < i → wdB (bat w j) = true) ∧ (0 < i → (if b then smB (bat w 0) else bgB (bat w 0)) = true) := ⟨_, rfl⟩
  refine wpS_loop I (fun j => w.length - j) 0 (by rw [hI]; exact ⟨by simp [upd], by simp [upd], by simp [upd], by omega, rfl, fun j hj => by omega, fun q => by omega⟩) ?_
  intro i σ h' hy
  rw [hI] at hy
  obtain ⟨e0, e1, e5, hi, rfl, hall, hfst⟩ := hy
  by_cases hlt : i < w.length
  case neg =>
    rw [htrue (hfst (by have := List.length_pos_iff.2 h1; omega)) (fun j hj => hall j (by omega))] at hK
    simp (disch := first | omega | (simp only [e_ssz, e_psz, e_hszs, List.length_cons, List.length_nil]; try omega; done)) only [↓reduceIte, go_sem, lwWordOK_L1, e0, e5, hlt]
    exact hK
  have step : wdB (bat w i) = true → (i = 0 → (if b then smB (bat w 0) else bgB (bat w 0)) = true) → ∀ σ', σ' 0 = str w → σ' 1 = .bool b → σ' 5 = .int .i64 ((i : Int) + 1) → ∃ y, I y σ' h' ∧ w.length - y < w.length - i := fun q1 q2 σ' z0 z1 z5 => by
    refine ⟨i + 1, ?_, by omega⟩
    rw [hI]
    refine ⟨z0, z1, z5, hlt, rfl, fun j hj => ?_, fun _ => ?_⟩
    · by_cases q : j = i
      · rw [q]; exact q1
      · exact hall j (by omega)
    · by_cases q : i = 0
      · exact q2 q
      · exact hfst (by omega)
  obtain ⟨c, hc⟩ : ∃ c, c = bat w i := ⟨_, rfl⟩
  by_cases hi0 : i = 0
  · subst hi0
    rw [← hc] at hfirst step hfst
    cases b
    · simp (disch := first | omega | (simp only [e_ssz, e_psz, e_hszs, List.length_cons, List.length_nil]; try omega; done)) only [↓reduceIte, go_sem, lwWordOK_L1, e0, e1, e5, batf, ← hc, eq_true (show (0 : Int) < (w.length : Nat) by omega)]
      refine ⟨fun q => ?_, fun q => ⟨fun q2 => ?_, fun q2 => ?_⟩⟩
      · rw [hfirst (bgB_no (by omega))] at hK; exact hK
      · rw [hfalse 0 hlt (by rw [← hc]; exact wdB_no (by omega))] at hK; exact hK
      · refine step ((wdB_iff c).2 (by omega)) (fun _ => (bgB_iff c).2 (by omega)) _ ?_ ?_ ?_ <;> simp [upd, e0, e1]
    · simp (disch := first | omega | (simp only [e_ssz, e_psz, e_hszs, List.length_cons, List.length_nil]; try omega; done)) only [↓reduceIte, go_sem, lwWordOK_L1, e0, e1, e5, batf, ← hc, eq_true (show (0 : Int) < (w.length : Nat) by omega)]
      refine ⟨fun q => ?_, fun q => ⟨fun q2 => ?_, fun q2 => ?_⟩⟩
      · rw [hfirst (smB_no (by omega))] at hK; exact hK
      · rw [hfalse 0 hlt (by rw [← hc]; exact wdB_no (by omega))] at hK; exact hK
      · refine step ((wdB_iff c).2 (by omega)) (fun _ => (smB_iff c).2 (by omega)) _ ?_ ?_ ?_ <;> simp [upd, e0, e1]
  · rw [← hc] at step
    simp (disch := first | omega | (simp only [e_ssz, e_psz, e_hszs, List.length_cons, List.length_nil]; try omega; done)) only [↓reduceIte, go_sem, lwWordOK_L1, e0, e1, e5, batf, ← hc, eq_false (show ¬ (i : Int) = 0 by omega), eq_true (show (i : Int) < (w.length : Nat) by omega)]
    refine ⟨fun q2 => ?_, fun q2 => ?_⟩
    · rw [hfalse i hlt (by rw [← hc]; exact wdB_no (by omega))] at hK; exact hK
    · refine step ((wdB_iff c).2 (by omega)) (fun q => absurd q hi0) _ ?_ ?_ ?_ <;> simp [upd, e0, e1]
def C_integer (vs : List Value) (h : H) (K : Value → H → Prop) : Prop := ∃ (u : U) (v z : Int), vs = [.int .i64 v, .int .i64 z] ∧ (-9223372036854775808 ≤ v ∧ v ≤ 9223372036854775807) ∧ PowG u h ∧ ∀ u' h', Step S0 u h u' h' → K (str (intSp v z)) h'
def G_integer : Ctr := fun f vs h K _ => f = 63 ∧ C_fint vs h K
theorem G_integer_ok : GOk Tryd.prog G_integer := by
  rintro f vs h K KP ⟨rfl, hC⟩; exact formatInt_ok hC
theorem lwInteger_ok {vs : List Value} {h : H} {K : Value → H → Prop} {KP : List PanicEntry → H → Prop} (hC : C_integer vs h K) : HCX Tryd.prog 39 vs h K KP := by
  obtain ⟨u, v, z, rfl, hv, hP, hK⟩ := hC
  refine lwInteger_H G_integer G_integer_ok _ _ ?_
  simp (disch := first | omega | (simp only [e_ssz, e_psz, e_hszs, List.length_cons, List.length_nil]; try omega; done)) only [↓reduceIte, go_sem, lwInteger_S, lwInteger_E]
  refine effS_call ⟨rfl, u, v, rfl, hv, hP, fun u2 h2 s2 => ⟨by simp (disch := first | omega | (simp only [e_ssz, e_psz, e_hszs, List.length_cons, List.length_nil]; try omega; done)) only [go_sem], ?_⟩⟩
  have hdl := dec_len 18 v.natAbs (by have : (10 : Nat) ^ (18 + 1) = 10000000000000000000 := by decide
                                      omega)
  obtain ⟨dd, hdd⟩ : ∃ dd, dd = Go.Lib.decDigits v.natAbs := ⟨_, rfl⟩
  rw [← hdd] at hdl
  have hzf : zerosF z = min z.toNat 20 := rfl
  by_cases hn : v < 0
  · have ei : Go.Lib.itoa v = 45 :: dd := by unfold Go.Lib.itoa; rw [if_pos hn, hdd]
    rw [ei]
    simp (disch := first | omega | (simp only [e_ssz, e_psz, e_hszs, List.length_cons, List.length_nil]; try omega; done)) only [↓reduceIte, go_sem, eq_true hn]
    refine ⟨by omega, ?_⟩
    obtain ⟨I, hI⟩ : ∃ I : Nat → Env → H → Prop, I = fun k σ h' => σ 1 = .int .i64 z ∧ σ 6 = str [45] ∧ σ 5 = str (List.replicate k 48 ++ dd) ∧ σ 7 = .int .i64 k ∧ k ≤ zerosF z ∧ h' = h2 := ⟨_, rfl⟩
    refine wpS_loop I (fun j => 20 - j) 0 (by rw [hI]; exact ⟨by simp [upd], by simp [upd], by simp [upd], by simp [upd], by omega, rfl⟩) ?_
    intro k σ h' hy
    rw [hI] at hy
    obtain ⟨e1, e6, e5, e7, hk, rfl⟩ := hy
    obtain ⟨acc, hacc⟩ : ∃ acc, acc = List.replicate k 48 ++ dd := ⟨_, rfl⟩
    have hacc2 : [48] ++ acc = List.replicate (k + 1) 48 ++ dd := by rw [hacc, List.replicate_succ]; rfl
    have hal : acc.length ≤ 20 + dd.length := by rw [hacc, List.length_append, List.length_replicate]; omega
    rw [← hacc] at e5
    by_cases hlt : k < zerosF z
    · simp (disch := first | omega | (simp only [e_ssz, e_psz, e_hszs, List.length_cons, List.length_nil]; try omega; done)) only [↓reduceIte, go_sem, lwInteger_L1, e1, e5, e7, eq_true (show (k : Int) < z by omega), eq_true (show (k : Int) < 20 by omega)]
      refine ⟨by omega, k + 1, ?_, by omega⟩
      rw [hI]
      exact ⟨by simp [upd, e1], by simp [upd, e6], by simp [upd, ← hacc2], by simp [upd], hlt, rfl⟩
    · have hex : ¬ ((k : Int) < z ∧ (k : Int) < 20) := by omega
      have hfin : [45] ++ acc = intSp v z := by
        rw [hacc, show k = zerosF z by omega, hdd]
        unfold intSp digF
        rw [if_pos hn]
        rfl
      have hK' := hK _ _ s2
      rw [← hfin] at hK'
      by_cases hz : (k : Int) < z
      · simp (disch := first | omega | (simp only [e_ssz, e_psz, e_hszs, List.length_cons, List.length_nil]; try omega; done)) only [↓reduceIte, go_sem, lwInteger_L1, e1, e5, e6, e7, eq_true hz, eq_false (show ¬ (k : Int) < 20 by omega)]
        exact ⟨by omega, hK'⟩
      · simp (disch := first | omega | (simp only [e_ssz, e_psz, e_hszs, List.length_cons, List.length_nil]; try omega; done)) only [↓reduceIte, go_sem, lwInteger_L1, e1, e5, e6, e7, eq_false hz]
        exact ⟨by omega, hK'⟩
  · have ei : Go.Lib.itoa v = dd := by unfold Go.Lib.itoa; rw [if_neg hn, hdd]; congr 1; omega
    rw [ei]
    simp (disch := first | omega | (simp only [e_ssz, e_psz, e_hszs, List.length_cons, List.length_nil]; try omega; done)) only [↓reduceIte, go_sem, eq_false hn]
    obtain ⟨I, hI⟩ : ∃ I : Nat → Env → H → Prop, I = fun k σ h' => σ 1 = .int .i64 z ∧ σ 6 = str [] ∧ σ 5 = str (List.replicate k 48 ++ dd) ∧ σ 7 = .int .i64 k ∧ k ≤ zerosF z ∧ h' = h2 := ⟨_, rfl⟩
    refine wpS_loop I (fun j => 20 - j) 0 (by rw [hI]; exact ⟨by simp [upd], by simp [upd], by simp [upd], by simp [upd], by omega, rfl⟩) ?_
    intro k σ h' hy
    rw [hI] at hy
    obtain ⟨e1, e6, e5, e7, hk, rfl⟩ := hy
    obtain ⟨acc, hacc⟩ : ∃ acc, acc = List.replicate k 48 ++ dd := ⟨_, rfl⟩
    have hacc2 : [48] ++ acc = List.replicate (k + 1) 48 ++ dd := by rw [hacc, List.replicate_succ]; rfl
    have hal : acc.length ≤ 20 + dd.length := by rw [hacc, List.length_append, List.length_replicate]; omega
    rw [← hacc] at e5
    by_cases hlt : k < zerosF z
    · simp (disch := first | omega | (simp only [e_ssz, e_psz, e_hszs, List.length_cons, List.length_nil]; try omega; done)) only [↓reduceIte, go_sem, lwInteger_L1, e1, e5, e7, eq_true (show (k : Int) < z by omega), eq_true (show (k : Int) < 20 by omega)]
      refine ⟨by omega, k + 1, ?_, by omega⟩
      rw [hI]
      exact ⟨by simp [upd, e1], by simp [upd, e6], by simp [upd, ← hacc2], by simp [upd], hlt, rfl⟩
    · have hex : ¬ ((k : Int) < z ∧ (k : Int) < 20) := by omega
      have hfin : [] ++ acc = intSp v z := by
        rw [hacc, show k = zerosF z by omega, hdd]
        unfold intSp digF
        rw [if_neg hn]
        rfl
      have hK' := hK _ _ s2
      rw [← hfin] at hK'
      by_cases hz : (k : Int) < z
      · simp (disch := first | omega | (simp only [e_ssz, e_psz, e_hszs, List.length_cons, List.length_nil]; try omega; done)) only [↓reduceIte, go_sem, lwInteger_L1, e1, e5, e6, e7, eq_true hz, eq_false (show ¬ (k : Int) < 20 by omega)]
        exact ⟨by omega, hK'⟩
      · simp (disch := first | omega | (simp only [e_ssz, e_psz, e_hszs, List.length_cons, List.length_nil]; try omega; done)) only [↓reduceIte, go_sem, lwInteger_L1, e1, e5, e6, e7, eq_false hz]
        exact ⟨by omega, hK'⟩
theorem made_bytes {k : Nat} {u : U} {h : H} (bs : List UInt8) (cs : List Value) (e : TypeId) (hk : k ≤ h.size) (hc : cs = bs.map fun c => Value.int .u8 c.toNat) (hm : bs.length ≤ maxLen) :
    ∃ u', Step S0 u h u' (h.push (.cells cs.toArray e)) ∧ Own k u' (h.push (.cells cs.toArray e)) (.slice (some ⟨h.size, 0, none⟩) bs.length bs.length) bs := by
  subst hc
  have := Own.made (k := k) u h hk e bs (bs.map fun c => Value.int .u8 c.toNat) (by rw [List.length_map]; exact (Nat.mul_one _).symm) hm (fun i x hx => by
    have hsz : Rep.sz UInt8 = 1 := rfl
    rw [hsz, Nat.mul_one, List.take_one, List.head?_drop, List.getElem?_map, hx, rep_byte]; rfl)
  exact ⟨_, Step.push S0 u h _ e _, this⟩
theorem effS_appb {G : Ctr} {e : TypeId} {bytes s : Nat} {z : List Value} {k : Nat} {u : U} {h : H} {v w : Value} {l m : List UInt8} {d : Option Nat} {st : Stab} {r : List St} {K : Env → H → Prop} {KP : List PanicEntry → H → Prop} {σ : Env}
    (ho : Own k u h v l) (hw : IsSl u h w m) (hs : s = Rep.sz UInt8) (hz : z.length = Rep.sz UInt8) (hk : k ≤ h.size) (hb : (l.length + m.length) * bytes ≤ 140737488355328)
    (hK : ∀ a n c u' h', Own k u' h' (.slice a n c) (l ++ m) → Step (OwnB v) u h u' h' → stabP st σ h h' ∧ wpSts G r K KP (updo σ d (.slice a n c)) h') :
    effS G (.app e s bytes z) d st r K KP [v, w] σ h :=
  effS_app ho hw hs hz hk hb hK
def C_written (vs : List Value) (h : H) (K : Value → H → Prop) : Prop := ∃ (u : U) (v : List UInt8) (style : Int), vs = [str v, .int .i64 style] ∧ v.length ≤ 1048576 ∧ ∀ u' h', Step S0 u h u' h' → K (str (textSp style v)) h'
theorem lwWritten_ok {vs : List Value} {h : H} {K : Value → H → Prop} {KP : List PanicEntry → H → Prop} (hC : C_written vs h K) : HCX Tryd.prog 40 vs h K KP := by
  obtain ⟨u, v, style, rfl, hl, hK⟩ := hC
  have hm := mlen'
  refine lwWritten_H (fun _ _ _ _ _ => False) (fun _ _ _ _ _ h => h.elim) _ _ ?_
  simp (disch := first | omega | (simp only [e_ssz, e_psz, e_hszs, List.length_cons, List.length_nil]; try omega; done)) only [↓reduceIte, go_sem, lwWritten_S, lwWritten_E]
  obtain ⟨u1, s1, o1⟩ := made_bytes (k := h.size) (u := u) (h := h) [34] [.int .u8 34] 5 (Nat.le_refl _) rfl (show 1 ≤ maxLen by decide)
  obtain ⟨I, hI⟩ : ∃ I : Nat → Env → H → Prop, I = fun i σ h' => ∃ (u' : U) (vb : Value), σ 0 = str v ∧ σ 1 = .int .i64 style ∧ σ 5 = vb ∧ σ 6 = .int .i64 i ∧ i ≤ v.length ∧ Step S0 u h u' h' ∧ Own h.size u' h' vb (34 :: bodyF style (v.take i)) := ⟨_, rfl⟩
  refine wpS_loop I (fun j => v.length - j) 0 (by rw [hI]; exact ⟨u1, _, by simp [upd], by simp [upd], by simp [upd], by simp [upd], by omega, s1, o1⟩) ?_
  intro i σ h' hy
  rw [hI] at hy
  obtain ⟨u', vb, e0, e1, e5, e6, hi, st, ob⟩ := hy
  obtain ⟨ba, bc, rfl, m1, m2⟩ := ob.sl
  have hbl : ∀ w : List UInt8, w.length ≤ 1048576 → (bodyF style w).length ≤ 4 * w.length := fun w _ => body_len style w
  by_cases hlt : i < v.length
  case neg =>
    have hb4 := body_len style v
    rw [List.take_of_length_le (by omega)] at ob e5 m1
    obtain ⟨acc, hacc⟩ : ∃ acc, acc = 34 :: bodyF style v := ⟨_, rfl⟩
    have hal : acc.length ≤ 4 * v.length + 1 := by rw [hacc, List.length_cons]; omega
    rw [← hacc] at ob e5 m1
    simp (disch := first | omega | (simp only [e_ssz, e_psz, e_hszs, List.length_cons, List.length_nil]; try omega; done)) only [↓reduceIte, go_sem, lwWritten_L1, e0, e5, e6, hlt]
    refine effS_app1q (by simp only []) ob (x := (34 : UInt8)) (cs := [.int .u8 34]) (by rw [rep_byte]; rfl) rfl rfl st.ge.sz (by omega) fun a n c u2 h2 o2 s2 hO2 => ⟨by simp (disch := first | omega | (simp only [e_ssz, e_psz, e_hszs, List.length_cons, List.length_nil]; try omega; done)) only [go_sem], ?_⟩
    simp (disch := first | omega | (simp only [e_ssz, e_psz, e_hszs, List.length_cons, List.length_nil]; try omega; done)) only [↓reduceIte, go_sem]
    have st2 := st.trans s2 (fun b hb q => by have := ob.ge q; omega)
    refine effS_b2s o2 ⟨by simp (disch := first | omega | (simp only [e_ssz, e_psz, e_hszs, List.length_cons, List.length_nil]; try omega; done)) only [go_sem], ?_⟩
    simp (disch := first | omega | (simp only [e_ssz, e_psz, e_hszs, List.length_cons, List.length_nil]; try omega; done)) only [↓reduceIte, go_sem]
    rw [hacc]
    exact hK _ _ st2
  obtain ⟨x, hx⟩ : ∃ x, v[i]? = some x := ⟨v[i], by simp [hlt]⟩
  obtain ⟨c, hc⟩ : ∃ c, c = x.toNat := ⟨_, rfl⟩
  have hcb : bat v i = c := by unfold bat; rw [List.getD_eq_getElem?_getD, hx, hc]; rfl
  have hc256 : c < 256 := by rw [hc]; exact UInt8.toNat_lt x
  have hsn : 34 :: bodyF style (v.take (i + 1)) = (34 :: bodyF style (v.take i)) ++ segF style x := by
    rw [List.take_add_one, hx]; unfold bodyF; rw [List.flatMap_append]; simp
  obtain ⟨acc, hacc⟩ : ∃ acc, acc = 34 :: bodyF style (v.take i) := ⟨_, rfl⟩
  have hal : acc.length ≤ 4 * i + 1 := by
    have := body_len style (v.take i)
    rw [List.length_take] at this
    rw [hacc, List.length_cons]; omega
  rw [← hacc] at ob e5 m1 hsn
  have next : ∀ (σ' : Env) (h2 : H) (u2 : U) (vb' : Value), σ' 0 = str v → σ' 1 = .int .i64 style → σ' 5 = vb' → σ' 6 = .int .i64 ((i : Int) + 1) → Step S0 u h u2 h2 → Own h.size u2 h2 vb' (acc ++ segF style x) → ∃ y, I y σ' h2 ∧ v.length - y < v.length - i := by
    intro σ' h2 u2 vb' z0 z1 z5 z6 zs zo
    refine ⟨i + 1, ?_, by omega⟩
    rw [hI]
    exact ⟨u2, vb', z0, z1, z5, z6, hlt, zs, by rw [hsn]; exact zo⟩
  have zge := st.ge.sz
  have hx1 := hexD_lt (show c / 16 < 16 by omega)
  have hx2 := hexD_lt (Nat.mod_lt c (show 0 < 16 by decide))
  by_cases h34 : c = 34
  · by_cases hs2 : style = 2
    · have hseg : segF style x = [92, 120, UInt8.ofNat (hexD (34 / 16)), UInt8.ofNat (hexD (34 % 16))] := by unfold segF; rw [← hc, h34, if_neg (fun q => q.2 hs2), if_pos (.inr (.inl hs2))]
      have hseg : segF style x = [92, 120, UInt8.ofNat (hexD (c / 16)), UInt8.ofNat (hexD (c % 16))] := by rw [hseg, h34]
      simp (disch := first | omega | (simp only [e_ssz, e_psz, e_hszs, List.length_cons, List.length_nil]; try omega; done)) only [↓reduceIte, go_sem, lwWritten_L1, e0, e1, e5, e6, hlt, batf, hcb, eq_true (show (c : Int) = 34 by omega), eq_false (show ¬ (c : Int) = 0 by omega), eq_true hs2, e_bits, e_bitsc, (bits_hex hc256).1, (bits_hex hc256).2]
      refine ⟨fun q => (by cases q), by omega, by omega, ?_⟩
      rw [hex_at (show c / 16 < 16 by omega), hex_at (show c % 16 < 16 by omega)]
      obtain ⟨u2, s2, o2⟩ := made_bytes (k := 0) (u := u') (h := h') [92, 120, UInt8.ofNat (hexD (c / 16)), UInt8.ofNat (hexD (c % 16))] [.int .u8 92, .int .u8 120, .int .u8 (hexD (c / 16) : Nat), .int .u8 (hexD (c % 16) : Nat)] 5 (Nat.zero_le _) (by simp only [List.map_cons, List.map_nil, ofNat_back hx1, ofNat_back hx2]; rfl) (by simp only [List.length_cons, List.length_nil]; decide)
      refine effS_appb (l := acc) (m := [92, 120, UInt8.ofNat (hexD (c / 16)), UInt8.ofNat (hexD (c % 16))]) (ob.step0 s2) o2.isSl rfl rfl (by have := s2.ge.sz; omega) (by simp only [List.length_cons, List.length_nil]; omega) fun a n c' u3 h3 o3 s3 => ⟨by simp (disch := first | omega | (simp only [e_ssz, e_psz, e_hszs, List.length_cons, List.length_nil]; try omega; done)) only [go_sem], ?_⟩
      have st3 := (st.trans0 s2).trans s3 (fun b hb q => by have := ob.ge q; omega)
      simp (disch := first | omega | (simp only [e_ssz, e_psz, e_hszs, List.length_cons, List.length_nil]; try omega; done)) only [↓reduceIte, go_sem, e6]
      refine next _ _ _ _ ?_ ?_ ?_ ?_ st3 (by rw [hseg]; exact o3) <;> simp [upd, e0, e1]
    · have hseg : segF style x = [92, 34] := by unfold segF; rw [← hc, h34, if_pos ⟨by decide, hs2⟩]; rfl
      simp (disch := first | omega | (simp only [e_ssz, e_psz, e_hszs, List.length_cons, List.length_nil]; try omega; done)) only [↓reduceIte, go_sem, lwWritten_L1, e0, e1, e5, e6, hlt, batf, hcb, eq_true (show (c : Int) = 34 by omega), eq_false (show ¬ (c : Int) = 0 by omega), eq_false hs2]
      rw [h34]
      obtain ⟨u2, s2, o2⟩ := made_bytes (k := 0) (u := u') (h := h') [92, 34] [.int .u8 92, .int .u8 ((34 : Nat) : Int)] 5 (Nat.zero_le _) rfl (by simp only [List.length_cons, List.length_nil]; decide)
      refine effS_appb (l := acc) (m := [92, 34]) (ob.step0 s2) o2.isSl rfl rfl (by have := s2.ge.sz; omega) (by simp only [List.length_cons, List.length_nil]; omega) fun a n c' u3 h3 o3 s3 => ⟨by simp (disch := first | omega | (simp only [e_ssz, e_psz, e_hszs, List.length_cons, List.length_nil]; try omega; done)) only [go_sem], ?_⟩
      have st3 := (st.trans0 s2).trans s3 (fun b hb q => by have := ob.ge q; omega)
      simp (disch := first | omega | (simp only [e_ssz, e_psz, e_hszs, List.length_cons, List.length_nil]; try omega; done)) only [↓reduceIte, go_sem, e6]
      refine next _ _ _ _ ?_ ?_ ?_ ?_ st3 (by rw [hseg]; exact o3) <;> simp [upd, e0, e1]
  by_cases h92 : c = 92
  · by_cases hs2 : style = 2
    · have hseg : segF style x = [92, 120, UInt8.ofNat (hexD (92 / 16)), UInt8.ofNat (hexD (92 % 16))] := by unfold segF; rw [← hc, h92, if_neg (fun q => q.2 hs2), if_pos (.inr (.inl hs2))]
      have hseg : segF style x = [92, 120, UInt8.ofNat (hexD (c / 16)), UInt8.ofNat (hexD (c % 16))] := by rw [hseg, h92]
      simp (disch := first | omega | (simp only [e_ssz, e_psz, e_hszs, List.length_cons, List.length_nil]; try omega; done)) only [↓reduceIte, go_sem, lwWritten_L1, e0, e1, e5, e6, hlt, batf, hcb, eq_false (show ¬ (c : Int) = 34 by omega), eq_true (show (c : Int) = 92 by omega), eq_false (show ¬ (c : Int) = 0 by omega), eq_true hs2, e_bits, e_bitsc, (bits_hex hc256).1, (bits_hex hc256).2]
      refine ⟨fun q => (by cases q), by omega, by omega, ?_⟩
      rw [hex_at (show c / 16 < 16 by omega), hex_at (show c % 16 < 16 by omega)]
      obtain ⟨u2, s2, o2⟩ := made_bytes (k := 0) (u := u') (h := h') [92, 120, UInt8.ofNat (hexD (c / 16)), UInt8.ofNat (hexD (c % 16))] [.int .u8 92, .int .u8 120, .int .u8 (hexD (c / 16) : Nat), .int .u8 (hexD (c % 16) : Nat)] 5 (Nat.zero_le _) (by simp only [List.map_cons, List.map_nil, ofNat_back hx1, ofNat_back hx2]; rfl) (by simp only [List.length_cons, List.length_nil]; decide)
      refine effS_appb (l := acc) (m := [92, 120, UInt8.ofNat (hexD (c / 16)), UInt8.ofNat (hexD (c % 16))]) (ob.step0 s2) o2.isSl rfl rfl (by have := s2.ge.sz; omega) (by simp only [List.length_cons, List.length_nil]; omega) fun a n c' u3 h3 o3 s3 => ⟨by simp (disch := first | omega | (simp only [e_ssz, e_psz, e_hszs, List.length_cons, List.length_nil]; try omega; done)) only [go_sem], ?_⟩
      have st3 := (st.trans0 s2).trans s3 (fun b hb q => by have := ob.ge q; omega)
      simp (disch := first | omega | (simp only [e_ssz, e_psz, e_hszs, List.length_cons, List.length_nil]; try omega; done)) only [↓reduceIte, go_sem, e6]
      refine next _ _ _ _ ?_ ?_ ?_ ?_ st3 (by rw [hseg]; exact o3) <;> simp [upd, e0, e1]
    · have hseg : segF style x = [92, 92] := by unfold segF; rw [← hc, h92, if_pos ⟨by decide, hs2⟩]; rfl
      simp (disch := first | omega | (simp only [e_ssz, e_psz, e_hszs, List.length_cons, List.length_nil]; try omega; done)) only [↓reduceIte, go_sem, lwWritten_L1, e0, e1, e5, e6, hlt, batf, hcb, eq_false (show ¬ (c : Int) = 34 by omega), eq_true (show (c : Int) = 92 by omega), eq_false (show ¬ (c : Int) = 0 by omega), eq_false hs2]
      rw [h92]
      obtain ⟨u2, s2, o2⟩ := made_bytes (k := 0) (u := u') (h := h') [92, 92] [.int .u8 92, .int .u8 ((92 : Nat) : Int)] 5 (Nat.zero_le _) rfl (by simp only [List.length_cons, List.length_nil]; decide)
      refine effS_appb (l := acc) (m := [92, 92]) (ob.step0 s2) o2.isSl rfl rfl (by have := s2.ge.sz; omega) (by simp only [List.length_cons, List.length_nil]; omega) fun a n c' u3 h3 o3 s3 => ⟨by simp (disch := first | omega | (simp only [e_ssz, e_psz, e_hszs, List.length_cons, List.length_nil]; try omega; done)) only [go_sem], ?_⟩
      have st3 := (st.trans0 s2).trans s3 (fun b hb q => by have := ob.ge q; omega)
      simp (disch := first | omega | (simp only [e_ssz, e_psz, e_hszs, List.length_cons, List.length_nil]; try omega; done)) only [↓reduceIte, go_sem, e6]
      refine next _ _ _ _ ?_ ?_ ?_ ?_ st3 (by rw [hseg]; exact o3) <;> simp [upd, e0, e1]
  by_cases h10 : c = 10
  · by_cases hs2 : style = 2
    · have hseg : segF style x = [92, 120, UInt8.ofNat (hexD (10 / 16)), UInt8.ofNat (hexD (10 % 16))] := by unfold segF; rw [← hc, h10, if_neg (fun q => q.2 hs2), if_pos (.inr (.inl hs2))]
      have hseg : segF style x = [92, 120, UInt8.ofNat (hexD (c / 16)), UInt8.ofNat (hexD (c % 16))] := by rw [hseg, h10]
      simp (disch := first | omega | (simp only [e_ssz, e_psz, e_hszs, List.length_cons, List.length_nil]; try omega; done)) only [↓reduceIte, go_sem, lwWritten_L1, e0, e1, e5, e6, hlt, batf, hcb, eq_false (show ¬ (c : Int) = 34 by omega), eq_false (show ¬ (c : Int) = 92 by omega), eq_true (show (c : Int) = 10 by omega), eq_true hs2, e_bits, e_bitsc, (bits_hex hc256).1, (bits_hex hc256).2]
      refine ⟨fun q => (by cases q), by omega, by omega, ?_⟩
      rw [hex_at (show c / 16 < 16 by omega), hex_at (show c % 16 < 16 by omega)]
      obtain ⟨u2, s2, o2⟩ := made_bytes (k := 0) (u := u') (h := h') [92, 120, UInt8.ofNat (hexD (c / 16)), UInt8.ofNat (hexD (c % 16))] [.int .u8 92, .int .u8 120, .int .u8 (hexD (c / 16) : Nat), .int .u8 (hexD (c % 16) : Nat)] 5 (Nat.zero_le _) (by simp only [List.map_cons, List.map_nil, ofNat_back hx1, ofNat_back hx2]; rfl) (by simp only [List.length_cons, List.length_nil]; decide)
      refine effS_appb (l := acc) (m := [92, 120, UInt8.ofNat (hexD (c / 16)), UInt8.ofNat (hexD (c % 16))]) (ob.step0 s2) o2.isSl rfl rfl (by have := s2.ge.sz; omega) (by simp only [List.length_cons, List.length_nil]; omega) fun a n c' u3 h3 o3 s3 => ⟨by simp (disch := first | omega | (simp only [e_ssz, e_psz, e_hszs, List.length_cons, List.length_nil]; try omega; done)) only [go_sem], ?_⟩
      have st3 := (st.trans0 s2).trans s3 (fun b hb q => by have := ob.ge q; omega)
      simp (disch := first | omega | (simp only [e_ssz, e_psz, e_hszs, List.length_cons, List.length_nil]; try omega; done)) only [↓reduceIte, go_sem, e6]
      refine next _ _ _ _ ?_ ?_ ?_ ?_ st3 (by rw [hseg]; exact o3) <;> simp [upd, e0, e1]
    · have hseg : segF style x = [92, 110] := by unfold segF; rw [← hc, h10, if_pos ⟨by decide, hs2⟩]; rfl
      simp (disch := first | omega | (simp only [e_ssz, e_psz, e_hszs, List.length_cons, List.length_nil]; try omega; done)) only [↓reduceIte, go_sem, lwWritten_L1, e0, e1, e5, e6, hlt, batf, hcb, eq_false (show ¬ (c : Int) = 34 by omega), eq_false (show ¬ (c : Int) = 92 by omega), eq_true (show (c : Int) = 10 by omega), eq_false hs2]
      obtain ⟨u2, s2, o2⟩ := made_bytes (k := 0) (u := u') (h := h') [92, 110] [.int .u8 92, .int .u8 110] 5 (Nat.zero_le _) rfl (by simp only [List.length_cons, List.length_nil]; decide)
      refine effS_appb (l := acc) (m := [92, 110]) (ob.step0 s2) o2.isSl rfl rfl (by have := s2.ge.sz; omega) (by simp only [List.length_cons, List.length_nil]; omega) fun a n c' u3 h3 o3 s3 => ⟨by simp (disch := first | omega | (simp only [e_ssz, e_psz, e_hszs, List.length_cons, List.length_nil]; try omega; done)) only [go_sem], ?_⟩
      have st3 := (st.trans0 s2).trans s3 (fun b hb q => by have := ob.ge q; omega)
      simp (disch := first | omega | (simp only [e_ssz, e_psz, e_hszs, List.length_cons, List.length_nil]; try omega; done)) only [↓reduceIte, go_sem, e6]
      refine next _ _ _ _ ?_ ?_ ?_ ?_ st3 (by rw [hseg]; exact o3) <;> simp [upd, e0, e1]
  by_cases h9 : c = 9
  · by_cases hs2 : style = 2
    · have hseg : segF style x = [92, 120, UInt8.ofNat (hexD (9 / 16)), UInt8.ofNat (hexD (9 % 16))] := by unfold segF; rw [← hc, h9, if_neg (fun q => q.2 hs2), if_pos (.inr (.inl hs2))]
      have hseg : segF style x = [92, 120, UInt8.ofNat (hexD (c / 16)), UInt8.ofNat (hexD (c % 16))] := by rw [hseg, h9]
      simp (disch := first | omega | (simp only [e_ssz, e_psz, e_hszs, List.length_cons, List.length_nil]; try omega; done)) only [↓reduceIte, go_sem, lwWritten_L1, e0, e1, e5, e6, hlt, batf, hcb, eq_false (show ¬ (c : Int) = 34 by omega), eq_false (show ¬ (c : Int) = 92 by omega), eq_false (show ¬ (c : Int) = 10 by omega), eq_true (show (c : Int) = 9 by omega), eq_true hs2, e_bits, e_bitsc, (bits_hex hc256).1, (bits_hex hc256).2]
      refine ⟨fun q => (by cases q), by omega, by omega, ?_⟩
      rw [hex_at (show c / 16 < 16 by omega), hex_at (show c % 16 < 16 by omega)]
      obtain ⟨u2, s2, o2⟩ := made_bytes (k := 0) (u := u') (h := h') [92, 120, UInt8.ofNat (hexD (c / 16)), UInt8.ofNat (hexD (c % 16))] [.int .u8 92, .int .u8 120, .int .u8 (hexD (c / 16) : Nat), .int .u8 (hexD (c % 16) : Nat)] 5 (Nat.zero_le _) (by simp only [List.map_cons, List.map_nil, ofNat_back hx1, ofNat_back hx2]; rfl) (by simp only [List.length_cons, List.length_nil]; decide)
      refine effS_appb (l := acc) (m := [92, 120, UInt8.ofNat (hexD (c / 16)), UInt8.ofNat (hexD (c % 16))]) (ob.step0 s2) o2.isSl rfl rfl (by have := s2.ge.sz; omega) (by simp only [List.length_cons, List.length_nil]; omega) fun a n c' u3 h3 o3 s3 => ⟨by simp (disch := first | omega | (simp only [e_ssz, e_psz, e_hszs, List.length_cons, List.length_nil]; try omega; done)) only [go_sem], ?_⟩
      have st3 := (st.trans0 s2).trans s3 (fun b hb q => by have := ob.ge q; omega)
      simp (disch := first | omega | (simp only [e_ssz, e_psz, e_hszs, List.length_cons, List.length_nil]; try omega; done)) only [↓reduceIte, go_sem, e6]
      refine next _ _ _ _ ?_ ?_ ?_ ?_ st3 (by rw [hseg]; exact o3) <;> simp [upd, e0, e1]
    · have hseg : segF style x = [92, 116] := by unfold segF; rw [← hc, h9, if_pos ⟨by decide, hs2⟩]; rfl
      simp (disch := first | omega | (simp only [e_ssz, e_psz, e_hszs, List.length_cons, List.length_nil]; try omega; done)) only [↓reduceIte, go_sem, lwWritten_L1, e0, e1, e5, e6, hlt, batf, hcb, eq_false (show ¬ (c : Int) = 34 by omega), eq_false (show ¬ (c : Int) = 92 by omega), eq_false (show ¬ (c : Int) = 10 by omega), eq_true (show (c : Int) = 9 by omega), eq_false hs2]
      obtain ⟨u2, s2, o2⟩ := made_bytes (k := 0) (u := u') (h := h') [92, 116] [.int .u8 92, .int .u8 116] 5 (Nat.zero_le _) rfl (by simp only [List.length_cons, List.length_nil]; decide)
      refine effS_appb (l := acc) (m := [92, 116]) (ob.step0 s2) o2.isSl rfl rfl (by have := s2.ge.sz; omega) (by simp only [List.length_cons, List.length_nil]; omega) fun a n c' u3 h3 o3 s3 => ⟨by simp (disch := first | omega | (simp only [e_ssz, e_psz, e_hszs, List.length_cons, List.length_nil]; try omega; done)) only [go_sem], ?_⟩
      have st3 := (st.trans0 s2).trans s3 (fun b hb q => by have := ob.ge q; omega)
      simp (disch := first | omega | (simp only [e_ssz, e_psz, e_hszs, List.length_cons, List.length_nil]; try omega; done)) only [↓reduceIte, go_sem, e6]
      refine next _ _ _ _ ?_ ?_ ?_ ?_ st3 (by rw [hseg]; exact o3) <;> simp [upd, e0, e1]
  by_cases h13 : c = 13
  · by_cases hs2 : style = 2
    · have hseg : segF style x = [92, 120, UInt8.ofNat (hexD (13 / 16)), UInt8.ofNat (hexD (13 % 16))] := by unfold segF; rw [← hc, h13, if_neg (fun q => q.2 hs2), if_pos (.inr (.inl hs2))]
      have hseg : segF style x = [92, 120, UInt8.ofNat (hexD (c / 16)), UInt8.ofNat (hexD (c % 16))] := by rw [hseg, h13]
      simp (disch := first | omega | (simp only [e_ssz, e_psz, e_hszs, List.length_cons, List.length_nil]; try omega; done)) only [↓reduceIte, go_sem, lwWritten_L1, e0, e1, e5, e6, hlt, batf, hcb, eq_false (show ¬ (c : Int) = 34 by omega), eq_false (show ¬ (c : Int) = 92 by omega), eq_false (show ¬ (c : Int) = 10 by omega), eq_false (show ¬ (c : Int) = 9 by omega), eq_true (show (c : Int) = 13 by omega), eq_true hs2, e_bits, e_bitsc, (bits_hex hc256).1, (bits_hex hc256).2]
      refine ⟨fun q => (by cases q), by omega, by omega, ?_⟩
      rw [hex_at (show c / 16 < 16 by omega), hex_at (show c % 16 < 16 by omega)]
      obtain ⟨u2, s2, o2⟩ := made_bytes (k := 0) (u := u') (h := h') [92, 120, UInt8.ofNat (hexD (c / 16)), UInt8.ofNat (hexD (c % 16))] [.int .u8 92, .int .u8 120, .int .u8 (hexD (c / 16) : Nat), .int .u8 (hexD (c % 16) : Nat)] 5 (Nat.zero_le _) (by simp only [List.map_cons, List.map_nil, ofNat_back hx1, ofNat_back hx2]; rfl) (by simp only [List.length_cons, List.length_nil]; decide)
      refine effS_appb (l := acc) (m := [92, 120, UInt8.ofNat (hexD (c / 16)), UInt8.ofNat (hexD (c % 16))]) (ob.step0 s2) o2.isSl rfl rfl (by have := s2.ge.sz; omega) (by simp only [List.length_cons, List.length_nil]; omega) fun a n c' u3 h3 o3 s3 => ⟨by simp (disch := first | omega | (simp only [e_ssz, e_psz, e_hszs, List.length_cons, List.length_nil]; try omega; done)) only [go_sem], ?_⟩
      have st3 := (st.trans0 s2).trans s3 (fun b hb q => by have := ob.ge q; omega)
      simp (disch := first | omega | (simp only [e_ssz, e_psz, e_hszs, List.length_cons, List.length_nil]; try omega; done)) only [↓reduceIte, go_sem, e6]
      refine next _ _ _ _ ?_ ?_ ?_ ?_ st3 (by rw [hseg]; exact o3) <;> simp [upd, e0, e1]
    · have hseg : segF style x = [92, 114] := by unfold segF; rw [← hc, h13, if_pos ⟨by decide, hs2⟩]; rfl
      simp (disch := first | omega | (simp only [e_ssz, e_psz, e_hszs, List.length_cons, List.length_nil]; try omega; done)) only [↓reduceIte, go_sem, lwWritten_L1, e0, e1, e5, e6, hlt, batf, hcb, eq_false (show ¬ (c : Int) = 34 by omega), eq_false (show ¬ (c : Int) = 92 by omega), eq_false (show ¬ (c : Int) = 10 by omega), eq_false (show ¬ (c : Int) = 9 by omega), eq_true (show (c : Int) = 13 by omega), eq_false hs2]
      obtain ⟨u2, s2, o2⟩ := made_bytes (k := 0) (u := u') (h := h') [92, 114] [.int .u8 92, .int .u8 114] 5 (Nat.zero_le _) rfl (by simp only [List.length_cons, List.length_nil]; decide)
      refine effS_appb (l := acc) (m := [92, 114]) (ob.step0 s2) o2.isSl rfl rfl (by have := s2.ge.sz; omega) (by simp only [List.length_cons, List.length_nil]; omega) fun a n c' u3 h3 o3 s3 => ⟨by simp (disch := first | omega | (simp only [e_ssz, e_psz, e_hszs, List.length_cons, List.length_nil]; try omega; done)) only [go_sem], ?_⟩
      have st3 := (st.trans0 s2).trans s3 (fun b hb q => by have := ob.ge q; omega)
      simp (disch := first | omega | (simp only [e_ssz, e_psz, e_hszs, List.length_cons, List.length_nil]; try omega; done)) only [↓reduceIte, go_sem, e6]
      refine next _ _ _ _ ?_ ?_ ?_ ?_ st3 (by rw [hseg]; exact o3) <;> simp [upd, e0, e1]
  have hlet : letF c = 0 := by unfold letF; rw [if_neg (by omega), if_neg h10, if_neg h9, if_neg h13]
  by_cases hs2 : style = 2
  · have hseg : segF style x = [92, 120, UInt8.ofNat (hexD (c / 16)), UInt8.ofNat (hexD (c % 16))] := by unfold segF; rw [← hc, if_neg (fun q => q.1 hlet), if_pos (.inr (.inl hs2))]
    simp (disch := first | omega | (simp only [e_ssz, e_psz, e_hszs, List.length_cons, List.length_nil]; try omega; done)) only [↓reduceIte, go_sem, lwWritten_L1, e0, e1, e5, e6, hlt, batf, hcb, eq_false (show ¬ (c : Int) = 34 by omega), eq_false (show ¬ (c : Int) = 92 by omega), eq_false (show ¬ (c : Int) = 10 by omega), eq_false (show ¬ (c : Int) = 9 by omega), eq_false (show ¬ (c : Int) = 13 by omega), eq_true hs2, e_bits, e_bitsc, (bits_hex hc256).1, (bits_hex hc256).2]
    refine ⟨fun q => (by cases q), by omega, by omega, ?_⟩
    rw [hex_at (show c / 16 < 16 by omega), hex_at (show c % 16 < 16 by omega)]
    obtain ⟨u2, s2, o2⟩ := made_bytes (k := 0) (u := u') (h := h') [92, 120, UInt8.ofNat (hexD (c / 16)), UInt8.ofNat (hexD (c % 16))] [.int .u8 92, .int .u8 120, .int .u8 (hexD (c / 16) : Nat), .int .u8 (hexD (c % 16) : Nat)] 5 (Nat.zero_le _) (by simp only [List.map_cons, List.map_nil, ofNat_back hx1, ofNat_back hx2]; rfl) (by simp only [List.length_cons, List.length_nil]; decide)
    refine effS_appb (l := acc) (m := [92, 120, UInt8.ofNat (hexD (c / 16)), UInt8.ofNat (hexD (c % 16))]) (ob.step0 s2) o2.isSl rfl rfl (by have := s2.ge.sz; omega) (by simp only [List.length_cons, List.length_nil]; omega) fun a n c' u3 h3 o3 s3 => ⟨by simp (disch := first | omega | (simp only [e_ssz, e_psz, e_hszs, List.length_cons, List.length_nil]; try omega; done)) only [go_sem], ?_⟩
    have st3 := (st.trans0 s2).trans s3 (fun b hb q => by have := ob.ge q; omega)
    simp (disch := first | omega | (simp only [e_ssz, e_psz, e_hszs, List.length_cons, List.length_nil]; try omega; done)) only [↓reduceIte, go_sem, e6]
    refine next _ _ _ _ ?_ ?_ ?_ ?_ st3 (by rw [hseg]; exact o3) <;> simp [upd, e0, e1]
  by_cases h32 : c < 32
  · have hseg : segF style x = [92, 120, UInt8.ofNat (hexD (c / 16)), UInt8.ofNat (hexD (c % 16))] := by unfold segF; rw [← hc, if_neg (fun q => q.1 hlet), if_pos (.inl h32)]
    simp (disch := first | omega | (simp only [e_ssz, e_psz, e_hszs, List.length_cons, List.length_nil]; try omega; done)) only [↓reduceIte, go_sem, lwWritten_L1, e0, e1, e5, e6, hlt, batf, hcb, eq_false (show ¬ (c : Int) = 34 by omega), eq_false (show ¬ (c : Int) = 92 by omega), eq_false (show ¬ (c : Int) = 10 by omega), eq_false (show ¬ (c : Int) = 9 by omega), eq_false (show ¬ (c : Int) = 13 by omega), eq_false hs2, eq_true (show (c : Int) < 32 by omega), e_bits, e_bitsc, (bits_hex hc256).1, (bits_hex hc256).2]
    refine ⟨fun q => (by cases q), by omega, by omega, ?_⟩
    rw [hex_at (show c / 16 < 16 by omega), hex_at (show c % 16 < 16 by omega)]
    obtain ⟨u2, s2, o2⟩ := made_bytes (k := 0) (u := u') (h := h') [92, 120, UInt8.ofNat (hexD (c / 16)), UInt8.ofNat (hexD (c % 16))] [.int .u8 92, .int .u8 120, .int .u8 (hexD (c / 16) : Nat), .int .u8 (hexD (c % 16) : Nat)] 5 (Nat.zero_le _) (by simp only [List.map_cons, List.map_nil, ofNat_back hx1, ofNat_back hx2]; rfl) (by simp only [List.length_cons, List.length_nil]; decide)
    refine effS_appb (l := acc) (m := [92, 120, UInt8.ofNat (hexD (c / 16)), UInt8.ofNat (hexD (c % 16))]) (ob.step0 s2) o2.isSl rfl rfl (by have := s2.ge.sz; omega) (by simp only [List.length_cons, List.length_nil]; omega) fun a n c' u3 h3 o3 s3 => ⟨by simp (disch := first | omega | (simp only [e_ssz, e_psz, e_hszs, List.length_cons, List.length_nil]; try omega; done)) only [go_sem], ?_⟩
    have st3 := (st.trans0 s2).trans s3 (fun b hb q => by have := ob.ge q; omega)
    simp (disch := first | omega | (simp only [e_ssz, e_psz, e_hszs, List.length_cons, List.length_nil]; try omega; done)) only [↓reduceIte, go_sem, e6]
    refine next _ _ _ _ ?_ ?_ ?_ ?_ st3 (by rw [hseg]; exact o3) <;> simp [upd, e0, e1]
  have hseg : segF style x = [x] := by unfold segF; rw [← hc, if_neg (fun q => q.1 hlet), if_neg (fun q => q.elim h32 (fun q => q.elim hs2 (fun q => q hlet)))]
  simp (disch := first | omega | (simp only [e_ssz, e_psz, e_hszs, List.length_cons, List.length_nil]; try omega; done)) only [↓reduceIte, go_sem, lwWritten_L1, e0, e1, e5, e6, hlt, batf, hcb, eq_false (show ¬ (c : Int) = 34 by omega), eq_false (show ¬ (c : Int) = 92 by omega), eq_false (show ¬ (c : Int) = 10 by omega), eq_false (show ¬ (c : Int) = 9 by omega), eq_false (show ¬ (c : Int) = 13 by omega), eq_false hs2, eq_false (show ¬ (c : Int) < 32 by omega)]
  obtain ⟨u2, s2, o2⟩ := made_bytes (k := 0) (u := u') (h := h') [x] [.int .u8 (c : Nat)] 5 (Nat.zero_le _) (by rw [hc]; rfl) (by simp only [List.length_cons, List.length_nil]; decide)
  refine effS_appb (l := acc) (m := [x]) (ob.step0 s2) o2.isSl rfl rfl (by have := s2.ge.sz; omega) (by simp only [List.length_cons, List.length_nil]; omega) fun a n c' u3 h3 o3 s3 => ⟨by simp (disch := first | omega | (simp only [e_ssz, e_psz, e_hszs, List.length_cons, List.length_nil]; try omega; done)) only [go_sem], ?_⟩
  have st3 := (st.trans0 s2).trans s3 (fun b hb q => by have := ob.ge q; omega)
  simp (disch := first | omega | (simp only [e_ssz, e_psz, e_hszs, List.length_cons, List.length_nil]; try omega; done)) only [↓reduceIte, go_sem, e6]
  refine next _ _ _ _ ?_ ?_ ?_ ?_ st3 (by rw [hseg]; exact o3) <;> simp [upd, e0, e1]


end Go.Proofs.YtbkpmdgeeolifaaDoor
