/- What lex's integer computes. -/
import Derived.Test.YtlenjlidahnklaaDoorParseI
namespace Edict
theorem allDg_iff {s : List UInt8} {a b : Nat} (hb : b ≤ s.length) : allDg s a b = true ↔ ∀ i, a ≤ i → i < b → dgB (bat s i) = true := by
  have hg : ∀ i, i < b - a → (sub s a b)[i]? = s[a + i]? := fun i hi => by
    unfold sub
    rw [List.getElem?_drop, List.getElem?_take, if_pos (by omega)]
  have hl : (sub s a b).length = b - a := sub_len hb
  have hbat : ∀ i, i < s.length → ∀ c, s[i]? = some c → bat s i = c.toNat := fun i hi c hc => by unfold bat; rw [List.getD_eq_getElem?_getD, hc]; rfl
  unfold allDg
  rw [List.all_eq_true]
  constructor
  · intro h i h1 h2
    have hi : i < s.length := by omega
    have hm : s[i]? = some s[i] := by simp [hi]
    have hx := hg (i - a) (by omega)
    rw [show a + (i - a) = i by omega, hm] at hx
    rw [hbat i hi _ hm]
    exact h _ (List.mem_of_getElem? hx)
  · intro h c hc
    obtain ⟨i, hi⟩ := List.mem_iff_getElem?.1 hc
    have hlt := (List.getElem?_eq_some_iff.1 hi).1
    rw [hg i (by omega)] at hi
    have := h (a + i) (by omega) (by omega)
    rwa [hbat (a + i) (by omega) c hi] at this
def negB (s : List UInt8) (k : Nat) : Bool := decide (bat s k = 45)
def fromF (s : List UInt8) (k : Nat) : Nat := if bat s k = 45 then k + 1 else k
theorem int_eq {s : List UInt8} {k : Nat} (hd : allDg s (fromF s k) (runF s (fromF s k)) = true) : intF s k (fromF s k) = match pintV (negB s k) (sub s (fromF s k) (runF s (fromF s k))) with | some v => .ok (3, [], v, 0, k, runF s (fromF s k)) | none => .bad 13 k := by
  unfold intF
  rw [if_pos hd]
  unfold pintV negB
  by_cases h : bat s k = 45
  · have hf : fromF s k = k + 1 := by unfold fromF; rw [if_pos h]
    rw [hf, if_pos (by omega), decide_eq_true h, if_pos rfl]
    split <;> rfl
  · have hf : fromF s k = k := by unfold fromF; rw [if_neg h]
    rw [hf, if_neg (by omega), decide_eq_false h]
    simp only [Bool.false_eq_true, if_false]
    split <;> rfl
theorem int_bad {s : List UInt8} {k b : Nat} (hd : allDg s b (runF s b) = false) : intF s k b = .bad 13 k := by unfold intF; rw [hd]; rfl
theorem sgn_sub {s : List UInt8} {k e : Nat} (h : fromF s k ≤ e) (he : e ≤ s.length) (hk : k < s.length) : (s.take e).drop k = sgnL (negB s k) ++ sub s (fromF s k) e := by
  unfold sgnL negB sub fromF
  by_cases hm : bat s k = 45
  · have hf : fromF s k = k + 1 := by unfold fromF; rw [if_pos hm]
    rw [hf] at h
    rw [decide_eq_true hm, if_pos rfl, if_pos hm]
    have hm' : s[k] = 45 := by
      unfold bat at hm
      rw [List.getD_eq_getElem?_getD, List.getElem?_eq_getElem hk] at hm
      exact UInt8.toNat_inj.1 hm
    rw [List.drop_eq_getElem_cons (by simp; omega)]
    simp [hm']
  · rw [decide_eq_false hm, if_neg hm]; simp
end Edict
namespace Go.Proofs.YtlenjlidahnklaaDoor
open Go Go.Ev Edict
def G_lxInteger : Ctr := fun f vs h K _ => (f = 50 ∧ C_b dgB vs h K) ∨ (f = 58 ∧ C_run vs h K) ∨ (f = 49 ∧ C_fault vs h K) ∨ (f = 59 ∧ C_pint vs h K)
theorem G_lxInteger_ok : GOk Tryd.prog G_lxInteger := by
  rintro f vs h K KP (⟨rfl, hC⟩ | ⟨rfl, hC⟩ | ⟨rfl, hC⟩ | ⟨rfl, hC⟩)
  · exact lxIsDigit_ok hC
  · exact lxRun_ok hC
  · exact lxFault_ok hC
  · exact parseInt_ok hC
theorem lxInteger_ok {vs : List Value} {h : H} {K : Value → H → Prop} {KP : List PanicEntry → H → Prop} (hC : C_tok ErrG (fun s k => intF s k (fromF s k)) (fun s k => k < s.length ∧ dgB (bat s (fromF s k)) = true) vs h K) : HCX Tryd.prog 52 vs h K KP := by
  obtain ⟨u, B, s, k, rfl, hB, hk, hl, ⟨hlt, hdg⟩, hE, hK⟩ := hC
  have hK : ∀ u' h', Step (fun i => i = B) u h u' h' → (∀ t, intF s k (fromF s k) = .ok t → Rdr u' h' B s t.2.2.2.2.2.toNat) → K (resV (intF s k (fromF s k))) h' := hK
  have hB1 := hB.1
  have hble : fromF s k < s.length := Nat.lt_of_not_le fun h => by rw [bat_end h] at hdg; simp [dgB] at hdg
  have hr1 := run_word hble (by unfold wdB; rw [hdg]; rfl)
  have hr2 := runF_le s _ (Nat.le_of_lt hble)
  refine lxInteger_H G_lxInteger G_lxInteger_ok _ ?_
  have sp : Step (fun i => i = B) u h _ _ := Step.push0 (fun i => i = B) u h tok0.toArray 80
  have T0 : Blk (ub u h.size 0) (h.push (.cells tok0.toArray 80)) h.size tok0 := Blk.new tok0 _
  have sp1 := sp.pushR (c := (fltE 0 0).toArray) (t := 27)
  have T1 := T0.pushR (c := (fltE 0 0).toArray) (t := 27)
  have F1 := Blk.new (u := ub u h.size 0) (h := h.push (.cells tok0.toArray 80)) (fltE 0 0) 27
  have b1 := (hB.pushR (c := tok0.toArray) (t := 80)).pushR (c := (fltE 0 0).toArray) (t := 27)
  have E1 := hE.mono sp1.ge
  simp only [e_psz] at sp1 T1 F1 b1 E1
  by_cases hm : bat s k = 45
  · have hf : fromF s k = k + 1 := by unfold fromF; rw [if_pos hm]
    have hneg : negB s k = true := by unfold negB; exact decide_eq_true hm
    simp (disch := first | omega | (simp only [e_ssz, e_psz, e_hszs, List.length_cons, List.length_nil]; try omega; done)) only [↓reduceIte, go_sem, lxInteger_S, lxInteger_E, hB.at, hB.2.1, batf, eq_true hlt, eq_true (show (bat s k : Int) = 45 by omega)]
    refine effS_call (.inr (.inl ⟨rfl, B, s, k + 1, by simp, by simp (disch := first | omega | (simp only [e_ssz, e_psz, e_hszs, List.length_cons, List.length_nil]; try omega; done)) only [go_sem, hB.2.1], by simp (disch := first | omega | (simp only [e_ssz, e_psz, e_hszs, List.length_cons, List.length_nil]; try omega; done)) only [go_sem, hB.at], by omega, hl, ⟨by simp (disch := first | omega | (simp only [e_ssz, e_psz, e_hszs, List.length_cons, List.length_nil]; try omega; done)) only [go_sem], ?_⟩⟩))
    rw [hf] at hr1 hr2 hK hdg hble
    obtain ⟨e, he⟩ : ∃ e, e = runF s (k + 1) := ⟨_, rfl⟩
    rw [← he] at hr1 hr2 ⊢
    obtain ⟨h1, hh1⟩ : ∃ h1, h1 = (h.push (.cells tok0.toArray 80)).push (.cells (fltE 0 0).toArray 27) := ⟨_, rfl⟩
    rw [← hh1] at sp1 T1 F1 b1 E1
    simp only [tok0, fltE] at hh1
    simp (disch := first | omega | (simp only [e_ssz, e_psz, e_hszs, List.length_cons, List.length_nil]; try omega; done)) only [↓reduceIte, go_sem]
    rw [← hh1]
    clear sp T0 hh1
    obtain ⟨u1, hu1⟩ : ∃ u1, u1 = ub (ub u h.size 0) (h.size + 1) 0 := ⟨_, rfl⟩
    rw [← hu1] at sp1 T1 F1 b1 E1
    have b11 := b1.1; have T11 := T1.1; have F11 := F1.1
    obtain ⟨I, hI⟩ : ∃ I : Nat → Env → H → Prop, I = fun j σ h' => σ 0 = .pointer (some ⟨B, 0, none⟩) ∧ σ 2 = .pointer (some ⟨h.size, 0, none⟩) ∧ σ 3 = .pointer (some ⟨h.size + 1, 0, none⟩) ∧ σ 4 = .int .i64 k ∧ σ 6 = .int .i64 e ∧ σ 7 = .int .i64 j ∧ h' = h1 ∧ k + 1 ≤ j ∧ j ≤ e ∧ ∀ i, k + 1 ≤ i → i < j → dgB (bat s i) = true := ⟨_, rfl⟩
    refine wpS_loop I (fun j => e - j) (k + 1) (by
      rw [hI]
      exact ⟨by simp [upd], by simp [upd], by simp [upd], by simp [upd], by simp [upd], by simp [upd], rfl, by omega, by omega, fun i h1 h2 => by omega⟩) ?_
    intro j σ h' hy
    rw [hI] at hy
    obtain ⟨e0, e2, e3, e4, e6, e7, rfl, hbj, hje, hall⟩ := hy
    by_cases hj : j < e
    · simp (disch := first | omega | (simp only [e_ssz, e_psz, e_hszs, List.length_cons, List.length_nil]; try omega; done)) only [↓reduceIte, go_sem, lxInteger_L1, e0, e6, e7, eq_true hj, b1.at, b1.2.1, eq_true (show j < s.length by omega), batf]
      refine effS_call (.inl ⟨rfl, bat s j, rfl, ⟨by simp (disch := first | omega | (simp only [e_ssz, e_psz, e_hszs, List.length_cons, List.length_nil]; try omega; done)) only [go_sem], ?_⟩⟩)
      cases hd : dgB (bat s j) with
      | true =>
        simp (disch := first | omega | (simp only [e_ssz, e_psz, e_hszs, List.length_cons, List.length_nil]; try omega; done)) only [↓reduceIte, go_sem, e7]
        refine ⟨j + 1, ?_, by omega⟩
        rw [hI]
        exact ⟨by simp [upd, e0], by simp [upd, e2], by simp [upd, e3], by simp [upd, e4], by simp [upd, e6], by simp [upd], rfl, by omega, by omega, fun i q1 q2 => by
          by_cases q : i = j
          · rw [q]; exact hd
          · exact hall i q1 (by omega)⟩
      | false =>
        have hbad : intF s k (k + 1) = .bad 13 k := int_bad (by
          rw [← he]
          cases hq : allDg s (k + 1) e with
          | false => rfl
          | true => have := (allDg_iff hr2).1 hq j hbj hj; rw [hd] at this; cases this)
        rw [hbad] at hK
        simp (disch := first | omega | (simp only [e_ssz, e_psz, e_hszs, List.length_cons, List.length_nil]; try omega; done)) only [↓reduceIte, go_sem, e0, e4]
        refine effS_call (.inr (.inr (.inl ⟨rfl, u1, _, 13, k, rfl, fun u2 h2 s2 => ⟨by simp (disch := first | omega | (simp only [e_ssz, e_psz, e_hszs, List.length_cons, List.length_nil]; try omega; done)) only [go_sem], ?_⟩⟩)))
        have T2 := T1.step0 s2
        have F2 := F1.step0 s2
        obtain ⟨r1, r2, r3, -⟩ := res2 (la := tok0) (lb := fltE 13 k) (sp1.trans0 s2) T2 F2 (by omega) (by omega) (by omega) rfl rfl
        have T21 := T2.1
        have F21 := F2.1
        simp only [tok0, fltE] at r1 r2 r3
        simp (disch := first | omega | (simp only [e_ssz, e_psz, e_hszs, List.length_cons, List.length_nil]; try omega; done)) only [↓reduceIte, go_sem, e2, e3, tok0, fltE, T2.2.1, T2.2.2.1, F2.2.1, F2.2.2.1, hsets_hsz, hsets_hfr, r2.at, r3.at, r2.2.1, r3.2.1]
        exact hK _ _ r1 (fun t ht => by cases ht)
    · obtain rfl : j = e := by omega
      have hdall : allDg s (k + 1) j = true := (allDg_iff hr2).2 hall
      have hie := int_eq (s := s) (k := k) (by rw [hf, ← he]; exact hdall)
      rw [hf, hneg, ← he] at hie
      rw [hie] at hK
      have hsub := sgn_sub (s := s) (k := k) (e := j) (by rw [hf]; omega) hr2 hlt
      rw [hf, hneg] at hsub
      have hsl := sub_len (s := s) (a := k + 1) hr2
      simp (disch := first | omega | (simp only [e_ssz, e_psz, e_hszs, List.length_cons, List.length_nil]; try omega; done)) only [↓reduceIte, go_sem, lxInteger_L1, e0, e4, e6, e7, b1.at, b1.2.1, eq_true (show k ≤ j by omega), eq_true hr2]
      rw [hsub]
      refine effS_call (.inr (.inr (.inr ⟨rfl, u1, true, sub s (k + 1) j, rfl, by omega, by intro q; rw [q] at hsl; simp at hsl; omega, fun c hc => (List.all_eq_true.1 hdall) c hc, E1, fun u3 h3 s3 => ?_⟩)))
      have st3 := sp1.trans0 s3
      have T3 := T1.step0 s3
      have F3 := F1.step0 s3
      have b3 := b1.step0 s3
      have b31 := b3.1; have T31 := T3.1; have F31 := F3.1
      cases hv : pintV true (sub s (k + 1) j) with
      | none =>
        rw [hv] at hK
        simp only
        intro n t p
        refine ⟨by simp (disch := first | omega | (simp only [e_ssz, e_psz, e_hszs, List.length_cons, List.length_nil]; try omega; done)) only [go_sem], ?_⟩
        simp (disch := first | omega | (simp only [e_ssz, e_psz, e_hszs, List.length_cons, List.length_nil]; try omega; done)) only [↓reduceIte, go_sem, e0, e4]
        refine effS_call (.inr (.inr (.inl ⟨rfl, u3, _, 13, k, rfl, fun u2 h2 s2 => ⟨by simp (disch := first | omega | (simp only [e_ssz, e_psz, e_hszs, List.length_cons, List.length_nil]; try omega; done)) only [go_sem], ?_⟩⟩)))
        have T2 := T3.step0 s2
        have F2 := F3.step0 s2
        obtain ⟨r1, r2, r3, -⟩ := res2 (la := tok0) (lb := fltE 13 k) (st3.trans0 s2) T2 F2 (by omega) (by omega) (by omega) rfl rfl
        have T21 := T2.1
        have F21 := F2.1
        simp only [tok0, fltE] at r1 r2 r3
        simp (disch := first | omega | (simp only [e_ssz, e_psz, e_hszs, List.length_cons, List.length_nil]; try omega; done)) only [↓reduceIte, go_sem, e2, e3, tok0, fltE, T2.2.1, T2.2.2.1, F2.2.1, F2.2.2.1, hsets_hsz, hsets_hfr, r2.at, r3.at, r2.2.1, r3.2.1]
        exact hK _ _ r1 (fun t ht => by cases ht)
      | some v =>
        rw [hv] at hK
        simp only
        refine ⟨by simp (disch := first | omega | (simp only [e_ssz, e_psz, e_hszs, List.length_cons, List.length_nil]; try omega; done)) only [go_sem], ?_⟩
        have hst2 := st3.setR (o := 1) (v := .int .i64 (j : Int)) (.inr rfl) (by rw [b3.2.2.2.1]; exact Nat.zero_le _)
        have b4 : Rdr u3 (hset h3 B 1 (.int .i64 (j : Int))) B s j := b3.set (i := 1) (v := .int .i64 (j : Int)) (by simp)
        have ss := Step.set (S := fun i => i = B) u3 h3 (o := 1) (.int .i64 (j : Int)) (b := B) rfl (by rw [b3.2.2.2.1]; exact Nat.zero_le _)
        have T4 := T3.step ss (by omega)
        have F4 := F3.step ss (by omega)
        obtain ⟨r1, r2, r3, r4⟩ := res2 (la := [.int .i64 3, str [], .int .i64 v, .int .i64 0, .int .i64 k, .int .i64 (j : Int)]) (lb := fltE 0 0) hst2 T4 F4 (by omega) (by omega) (by omega) rfl rfl
        have b5 := r4 B _ b4 (by omega) (by omega)
        have T41 := T4.1; have F41 := F4.1
        have T42 := T4.2.1
        have F42 := F4.2.1
        simp only [tok0, fltE, List.length_cons, List.length_nil] at r1 r2 r3 b5 T42 F42
        simp (disch := first | omega | (simp only [e_ssz, e_psz, e_hszs, List.length_cons, List.length_nil]; try omega; done)) only [↓reduceIte, go_sem, e0, e2, e3, e4, e6, b3.2.1, b3.2.2.1, T42, T4.2.2.1, F42, F4.2.2.1, hsets_hsz, hsets_hfr, r2.at, r3.at, r2.2.1, r3.2.1]
        exact hK _ _ r1 (fun t ht => by cases ht; exact b5)
  · have hf : fromF s k = k := by unfold fromF; rw [if_neg hm]
    have hneg : negB s k = false := by unfold negB; exact decide_eq_false hm
    simp (disch := first | omega | (simp only [e_ssz, e_psz, e_hszs, List.length_cons, List.length_nil]; try omega; done)) only [↓reduceIte, go_sem, lxInteger_S, lxInteger_E, hB.at, hB.2.1, batf, eq_true hlt, eq_false (show ¬ (bat s k : Int) = 45 by omega)]
    refine effS_call (.inr (.inl ⟨rfl, B, s, k, by simp, by simp (disch := first | omega | (simp only [e_ssz, e_psz, e_hszs, List.length_cons, List.length_nil]; try omega; done)) only [go_sem, hB.2.1], by simp (disch := first | omega | (simp only [e_ssz, e_psz, e_hszs, List.length_cons, List.length_nil]; try omega; done)) only [go_sem, hB.at], by omega, hl, ⟨by simp (disch := first | omega | (simp only [e_ssz, e_psz, e_hszs, List.length_cons, List.length_nil]; try omega; done)) only [go_sem], ?_⟩⟩))
    rw [hf] at hr1 hr2 hK hdg hble
    obtain ⟨e, he⟩ : ∃ e, e = runF s (k) := ⟨_, rfl⟩
    rw [← he] at hr1 hr2 ⊢
    obtain ⟨h1, hh1⟩ : ∃ h1, h1 = (h.push (.cells tok0.toArray 80)).push (.cells (fltE 0 0).toArray 27) := ⟨_, rfl⟩
    rw [← hh1] at sp1 T1 F1 b1 E1
    simp only [tok0, fltE] at hh1
    simp (disch := first | omega | (simp only [e_ssz, e_psz, e_hszs, List.length_cons, List.length_nil]; try omega; done)) only [↓reduceIte, go_sem]
    rw [← hh1]
    clear sp T0 hh1
    obtain ⟨u1, hu1⟩ : ∃ u1, u1 = ub (ub u h.size 0) (h.size + 1) 0 := ⟨_, rfl⟩
    rw [← hu1] at sp1 T1 F1 b1 E1
    have b11 := b1.1; have T11 := T1.1; have F11 := F1.1
    obtain ⟨I, hI⟩ : ∃ I : Nat → Env → H → Prop, I = fun j σ h' => σ 0 = .pointer (some ⟨B, 0, none⟩) ∧ σ 2 = .pointer (some ⟨h.size, 0, none⟩) ∧ σ 3 = .pointer (some ⟨h.size + 1, 0, none⟩) ∧ σ 4 = .int .i64 k ∧ σ 6 = .int .i64 e ∧ σ 7 = .int .i64 j ∧ h' = h1 ∧ k ≤ j ∧ j ≤ e ∧ ∀ i, k ≤ i → i < j → dgB (bat s i) = true := ⟨_, rfl⟩
    refine wpS_loop I (fun j => e - j) (k) (by
      rw [hI]
      exact ⟨by simp [upd], by simp [upd], by simp [upd], by simp [upd], by simp [upd], by simp [upd], rfl, by omega, by omega, fun i h1 h2 => by omega⟩) ?_
    intro j σ h' hy
    rw [hI] at hy
    obtain ⟨e0, e2, e3, e4, e6, e7, rfl, hbj, hje, hall⟩ := hy
    by_cases hj : j < e
    · simp (disch := first | omega | (simp only [e_ssz, e_psz, e_hszs, List.length_cons, List.length_nil]; try omega; done)) only [↓reduceIte, go_sem, lxInteger_L1, e0, e6, e7, eq_true hj, b1.at, b1.2.1, eq_true (show j < s.length by omega), batf]
      refine effS_call (.inl ⟨rfl, bat s j, rfl, ⟨by simp (disch := first | omega | (simp only [e_ssz, e_psz, e_hszs, List.length_cons, List.length_nil]; try omega; done)) only [go_sem], ?_⟩⟩)
      cases hd : dgB (bat s j) with
      | true =>
        simp (disch := first | omega | (simp only [e_ssz, e_psz, e_hszs, List.length_cons, List.length_nil]; try omega; done)) only [↓reduceIte, go_sem, e7]
        refine ⟨j + 1, ?_, by omega⟩
        rw [hI]
        exact ⟨by simp [upd, e0], by simp [upd, e2], by simp [upd, e3], by simp [upd, e4], by simp [upd, e6], by simp [upd], rfl, by omega, by omega, fun i q1 q2 => by
          by_cases q : i = j
          · rw [q]; exact hd
          · exact hall i q1 (by omega)⟩
      | false =>
        have hbad : intF s k (k) = .bad 13 k := int_bad (by
          rw [← he]
          cases hq : allDg s (k) e with
          | false => rfl
          | true => have := (allDg_iff hr2).1 hq j hbj hj; rw [hd] at this; cases this)
        rw [hbad] at hK
        simp (disch := first | omega | (simp only [e_ssz, e_psz, e_hszs, List.length_cons, List.length_nil]; try omega; done)) only [↓reduceIte, go_sem, e0, e4]
        refine effS_call (.inr (.inr (.inl ⟨rfl, u1, _, 13, k, rfl, fun u2 h2 s2 => ⟨by simp (disch := first | omega | (simp only [e_ssz, e_psz, e_hszs, List.length_cons, List.length_nil]; try omega; done)) only [go_sem], ?_⟩⟩)))
        have T2 := T1.step0 s2
        have F2 := F1.step0 s2
        obtain ⟨r1, r2, r3, -⟩ := res2 (la := tok0) (lb := fltE 13 k) (sp1.trans0 s2) T2 F2 (by omega) (by omega) (by omega) rfl rfl
        have T21 := T2.1
        have F21 := F2.1
        simp only [tok0, fltE] at r1 r2 r3
        simp (disch := first | omega | (simp only [e_ssz, e_psz, e_hszs, List.length_cons, List.length_nil]; try omega; done)) only [↓reduceIte, go_sem, e2, e3, tok0, fltE, T2.2.1, T2.2.2.1, F2.2.1, F2.2.2.1, hsets_hsz, hsets_hfr, r2.at, r3.at, r2.2.1, r3.2.1]
        exact hK _ _ r1 (fun t ht => by cases ht)
    · obtain rfl : j = e := by omega
      have hdall : allDg s (k) j = true := (allDg_iff hr2).2 hall
      have hie := int_eq (s := s) (k := k) (by rw [hf, ← he]; exact hdall)
      rw [hf, hneg, ← he] at hie
      rw [hie] at hK
      have hsub := sgn_sub (s := s) (k := k) (e := j) (by rw [hf]; omega) hr2 hlt
      rw [hf, hneg] at hsub
      have hsl := sub_len (s := s) (a := k) hr2
      simp (disch := first | omega | (simp only [e_ssz, e_psz, e_hszs, List.length_cons, List.length_nil]; try omega; done)) only [↓reduceIte, go_sem, lxInteger_L1, e0, e4, e6, e7, b1.at, b1.2.1, eq_true (show k ≤ j by omega), eq_true hr2]
      rw [hsub]
      refine effS_call (.inr (.inr (.inr ⟨rfl, u1, false, sub s (k) j, rfl, by omega, by intro q; rw [q] at hsl; simp at hsl; omega, fun c hc => (List.all_eq_true.1 hdall) c hc, E1, fun u3 h3 s3 => ?_⟩)))
      have st3 := sp1.trans0 s3
      have T3 := T1.step0 s3
      have F3 := F1.step0 s3
      have b3 := b1.step0 s3
      have b31 := b3.1; have T31 := T3.1; have F31 := F3.1
      cases hv : pintV false (sub s (k) j) with
      | none =>
        rw [hv] at hK
        simp only
        intro n t p
        refine ⟨by simp (disch := first | omega | (simp only [e_ssz, e_psz, e_hszs, List.length_cons, List.length_nil]; try omega; done)) only [go_sem], ?_⟩
        simp (disch := first | omega | (simp only [e_ssz, e_psz, e_hszs, List.length_cons, List.length_nil]; try omega; done)) only [↓reduceIte, go_sem, e0, e4]
        refine effS_call (.inr (.inr (.inl ⟨rfl, u3, _, 13, k, rfl, fun u2 h2 s2 => ⟨by simp (disch := first | omega | (simp only [e_ssz, e_psz, e_hszs, List.length_cons, List.length_nil]; try omega; done)) only [go_sem], ?_⟩⟩)))
        have T2 := T3.step0 s2
        have F2 := F3.step0 s2
        obtain ⟨r1, r2, r3, -⟩ := res2 (la := tok0) (lb := fltE 13 k) (st3.trans0 s2) T2 F2 (by omega) (by omega) (by omega) rfl rfl
        have T21 := T2.1
        have F21 := F2.1
        simp only [tok0, fltE] at r1 r2 r3
        simp (disch := first | omega | (simp only [e_ssz, e_psz, e_hszs, List.length_cons, List.length_nil]; try omega; done)) only [↓reduceIte, go_sem, e2, e3, tok0, fltE, T2.2.1, T2.2.2.1, F2.2.1, F2.2.2.1, hsets_hsz, hsets_hfr, r2.at, r3.at, r2.2.1, r3.2.1]
        exact hK _ _ r1 (fun t ht => by cases ht)
      | some v =>
        rw [hv] at hK
        simp only
        refine ⟨by simp (disch := first | omega | (simp only [e_ssz, e_psz, e_hszs, List.length_cons, List.length_nil]; try omega; done)) only [go_sem], ?_⟩
        have hst2 := st3.setR (o := 1) (v := .int .i64 (j : Int)) (.inr rfl) (by rw [b3.2.2.2.1]; exact Nat.zero_le _)
        have b4 : Rdr u3 (hset h3 B 1 (.int .i64 (j : Int))) B s j := b3.set (i := 1) (v := .int .i64 (j : Int)) (by simp)
        have ss := Step.set (S := fun i => i = B) u3 h3 (o := 1) (.int .i64 (j : Int)) (b := B) rfl (by rw [b3.2.2.2.1]; exact Nat.zero_le _)
        have T4 := T3.step ss (by omega)
        have F4 := F3.step ss (by omega)
        obtain ⟨r1, r2, r3, r4⟩ := res2 (la := [.int .i64 3, str [], .int .i64 v, .int .i64 0, .int .i64 k, .int .i64 (j : Int)]) (lb := fltE 0 0) hst2 T4 F4 (by omega) (by omega) (by omega) rfl rfl
        have b5 := r4 B _ b4 (by omega) (by omega)
        have T41 := T4.1; have F41 := F4.1
        have T42 := T4.2.1
        have F42 := F4.2.1
        simp only [tok0, fltE, List.length_cons, List.length_nil] at r1 r2 r3 b5 T42 F42
        simp (disch := first | omega | (simp only [e_ssz, e_psz, e_hszs, List.length_cons, List.length_nil]; try omega; done)) only [↓reduceIte, go_sem, e0, e2, e3, e4, e6, b3.2.1, b3.2.2.1, T42, T4.2.2.1, F42, F4.2.2.1, hsets_hsz, hsets_hfr, r2.at, r3.at, r2.2.1, r3.2.1]
        exact hK _ _ r1 (fun t ht => by cases ht; exact b5)
end Go.Proofs.YtlenjlidahnklaaDoor
