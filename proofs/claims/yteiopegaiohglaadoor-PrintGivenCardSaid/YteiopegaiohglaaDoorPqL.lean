/- How tokens are spelled and found, and how a text is laid token by token (the same laws as of the Lex rows, over this seat's own). -/
import Derived.Test.YteiopegaiohglaaDoorPqC
import Derived.Lib.ItoaNum
namespace Edict
theorem bat_app {s t : List UInt8} {i : Nat} (h : i < s.length) : bat (s ++ t) i = bat s i := bat_appL h
def oN (t : Tok) : Nat := t.2.2.2.2.1.toNat
def eN (t : Tok) : Nat := t.2.2.2.2.2.toNat
theorem gap_tok {s : List UInt8} {o : Nat} {t : Tok} (ho : o < s.length) (h : tokF s o = .ok t) : gapF s o = (o, true) := gap_tok2 ho h
theorem next_at {s : List UInt8} {k : Nat} {c : Int} {v : List UInt8} {n p : Int} {o e : Nat} (hk : k ≤ s.length) (h : nextF s k = .ok (c, v, n, p, (o : Int), (e : Int))) : gapF s k = (o, true) ∧ tokF s o = .ok (c, v, n, p, (o : Int), (e : Int)) := next_is hk h
theorem tok_end {s : List UInt8} {o : Nat} (h : s.length ≤ o) : tokF s o = .ok (endT o) := tok_fin h
theorem next_end {s : List UInt8} {k : Nat} (h : gapF s k = (s.length, true)) : scanK s k = ([endT s.length], 0, 0) := next_fin h
/-- What may follow a token of n bytes at b of t, that stands at a of s: no two word bytes run together, and no = behind < or >. -/
def Fol2 (s t : List UInt8) (a b n : Nat) : Prop := b + n = t.length ∨ ((wdB (bat t (b + n - 1)) = true → wdB (bat t (b + n)) = false) ∧ (bat t (b + n - 1) = 60 ∨ bat t (b + n - 1) = 62 → bat t (b + n) ≠ 61)) ∨ (a + n < s.length ∧ b + n < t.length ∧ bat t (b + n) = bat s (a + n))
theorem fol_run2 {s t : List UInt8} {a b n : Nat} (hn : 0 < n) (hl : wdB (bat t (b + n - 1)) = true) (hr : ¬ (a + n < s.length ∧ wdB (bat s (a + n)) = true)) (h : Fol2 s t a b n) : ¬ (b + n < t.length ∧ wdB (bat t (b + n)) = true) := by
  rintro ⟨h1, h2⟩
  rcases h with h | h | h
  · omega
  · rw [h.1 hl] at h2; cases h2
  · exact hr ⟨h.1, by rw [← h.2.2]; exact h2⟩
theorem sign_loc2 {s t : List UInt8} {a b : Nat} {c p : Int} {e : Nat} {v : List UInt8} {n : Int} (ho : a < s.length) (h : signF s a = .ok (c, v, n, p, (a : Int), (e : Int))) (ha : Ag s t a b (e - a)) (hf : Fol2 s t a b (e - a)) :
    signF t b = .ok (c, v, n, p, (b : Int), ((b + (e - a) : Nat) : Int)) := by
  have hae : a < e := by
    obtain ⟨c', p', e', h1, h2, h3, h4⟩ := sign_ok ho h
    simp only [Prod.mk.injEq, true_and] at h1
    have := h1.2.2.2.2; omega
  have two : ∀ k op, signF s a = sgn k op a 2 → (∀ x y, pr t b x y = pr s a x y → True) → e = a + 2 ∧ c = k ∧ p = op ∧ v = [] ∧ n = 0 := by
    intro k op h1 _
    rw [h1] at h
    simp only [sgn, TR.ok.injEq, Prod.mk.injEq, true_and] at h
    exact ⟨by have := h.2.2.2.2; omega, h.1.symm, h.2.2.2.1.symm, h.2.1.symm, h.2.2.1.symm⟩
  have one : ∀ k op, signF s a = sgn k op a 1 → e = a + 1 ∧ c = k ∧ p = op ∧ v = [] ∧ n = 0 := by
    intro k op h1
    rw [h1] at h
    simp only [sgn, TR.ok.injEq, Prod.mk.injEq, true_and] at h
    exact ⟨by have := h.2.2.2.2; omega, h.1.symm, h.2.2.2.1.symm, h.2.1.symm, h.2.2.1.symm⟩
  have h0 : bat t b = bat s a := by have := ha.2.2 0 (by omega); simpa using this.symm
  by_cases q0 : pr s a 58 45 = true
  · have hs : signF s a = sgn 9 0 a 2 := by unfold signF; rw [if_pos q0]
    obtain ⟨rfl, rfl, rfl, rfl, rfl⟩ := two _ _ hs (fun _ _ _ => trivial)
    rw [show a + 2 - a = 2 by omega] at ha ⊢
    unfold signF
    simp only [pr_loc2 ha]
    rw [if_pos q0]; rfl
  by_cases q1 : pr s a 33 61 = true
  · have hs : signF s a = sgn 11 2 a 2 := by unfold signF; rw [if_neg q0]; rw [if_pos q1]
    obtain ⟨rfl, rfl, rfl, rfl, rfl⟩ := two _ _ hs (fun _ _ _ => trivial)
    rw [show a + 2 - a = 2 by omega] at ha ⊢
    unfold signF
    simp only [pr_loc2 ha]
    rw [if_neg q0]; rw [if_pos q1]; rfl
  by_cases q2 : pr s a 60 61 = true
  · have hs : signF s a = sgn 11 4 a 2 := by unfold signF; rw [if_neg q0]; rw [if_neg q1]; rw [if_pos q2]
    obtain ⟨rfl, rfl, rfl, rfl, rfl⟩ := two _ _ hs (fun _ _ _ => trivial)
    rw [show a + 2 - a = 2 by omega] at ha ⊢
    unfold signF
    simp only [pr_loc2 ha]
    rw [if_neg q0]; rw [if_neg q1]; rw [if_pos q2]; rfl
  by_cases q3 : pr s a 62 61 = true
  · have hs : signF s a = sgn 11 6 a 2 := by unfold signF; rw [if_neg q0]; rw [if_neg q1]; rw [if_neg q2]; rw [if_pos q3]
    obtain ⟨rfl, rfl, rfl, rfl, rfl⟩ := two _ _ hs (fun _ _ _ => trivial)
    rw [show a + 2 - a = 2 by omega] at ha ⊢
    unfold signF
    simp only [pr_loc2 ha]
    rw [if_neg q0]; rw [if_neg q1]; rw [if_neg q2]; rw [if_pos q3]; rfl
  -- one byte
  have np : ∀ x y, ¬ pr s a x y = true → ((y = 61 ∧ (bat s a = 60 ∨ bat s a = 62)) ∨ bat s a ≠ x) → e = a + 1 → ¬ pr t b x y = true := by
    intro x y hq hy he hp
    subst he
    rw [show a + 1 - a = 1 by omega] at ha hf
    rw [pr_eq] at hp
    simp only [Bool.and_eq_true, decide_eq_true_eq] at hp
    rcases hy with ⟨rfl, hy⟩ | hy
    · rcases hf with hf | hf | hf
      · omega
      · rw [Nat.add_sub_cancel, h0] at hf; exact hf.2 hy hp.2
      · refine hq ?_
        rw [pr_eq]
        simp only [Bool.and_eq_true, decide_eq_true_eq]
        exact ⟨⟨hf.1, by rw [← h0]; exact hp.1.2⟩, by rw [← hf.2.2]; exact hp.2⟩
    · exact hy (by rw [← h0]; exact hp.1.2)
  by_cases r0 : bat s a = 60
  · have hs : signF s a = sgn 11 3 a 1 := by unfold signF; rw [if_neg q0]; rw [if_neg q1]; rw [if_neg q2]; rw [if_neg q3]; rw [if_pos r0]
    obtain ⟨rfl, rfl, rfl, rfl, rfl⟩ := one _ _ hs
    have n0 := np 58 45 q0 (.inr (by omega)) rfl
    have n1 := np 33 61 q1 (.inr (by omega)) rfl
    have n2 := np 60 61 q2 (by first | exact .inr (by omega) | exact .inl ⟨rfl, by omega⟩) rfl
    have n3 := np 62 61 q3 (by first | exact .inr (by omega) | exact .inl ⟨rfl, by omega⟩) rfl
    rw [show a + 1 - a = 1 by omega]
    unfold signF
    rw [if_neg n0, if_neg n1, if_neg n2, if_neg n3, h0]
    rw [if_pos r0]; rfl
  by_cases r1 : bat s a = 62
  · have hs : signF s a = sgn 11 5 a 1 := by unfold signF; rw [if_neg q0]; rw [if_neg q1]; rw [if_neg q2]; rw [if_neg q3]; rw [if_neg r0]; rw [if_pos r1]
    obtain ⟨rfl, rfl, rfl, rfl, rfl⟩ := one _ _ hs
    have n0 := np 58 45 q0 (.inr (by omega)) rfl
    have n1 := np 33 61 q1 (.inr (by omega)) rfl
    have n2 := np 60 61 q2 (by first | exact .inr (by omega) | exact .inl ⟨rfl, by omega⟩) rfl
    have n3 := np 62 61 q3 (by first | exact .inr (by omega) | exact .inl ⟨rfl, by omega⟩) rfl
    rw [show a + 1 - a = 1 by omega]
    unfold signF
    rw [if_neg n0, if_neg n1, if_neg n2, if_neg n3, h0]
    rw [if_neg r0]; rw [if_pos r1]; rfl
  by_cases r2 : bat s a = 61
  · have hs : signF s a = sgn 11 1 a 1 := by unfold signF; rw [if_neg q0]; rw [if_neg q1]; rw [if_neg q2]; rw [if_neg q3]; rw [if_neg r0]; rw [if_neg r1]; rw [if_pos r2]
    obtain ⟨rfl, rfl, rfl, rfl, rfl⟩ := one _ _ hs
    have n0 := np 58 45 q0 (.inr (by omega)) rfl
    have n1 := np 33 61 q1 (.inr (by omega)) rfl
    have n2 := np 60 61 q2 (by first | exact .inr (by omega) | exact .inl ⟨rfl, by omega⟩) rfl
    have n3 := np 62 61 q3 (by first | exact .inr (by omega) | exact .inl ⟨rfl, by omega⟩) rfl
    rw [show a + 1 - a = 1 by omega]
    unfold signF
    rw [if_neg n0, if_neg n1, if_neg n2, if_neg n3, h0]
    rw [if_neg r0]; rw [if_neg r1]; rw [if_pos r2]; rfl
  by_cases r3 : bat s a = 40
  · have hs : signF s a = sgn 5 0 a 1 := by unfold signF; rw [if_neg q0]; rw [if_neg q1]; rw [if_neg q2]; rw [if_neg q3]; rw [if_neg r0]; rw [if_neg r1]; rw [if_neg r2]; rw [if_pos r3]
    obtain ⟨rfl, rfl, rfl, rfl, rfl⟩ := one _ _ hs
    have n0 := np 58 45 q0 (.inr (by omega)) rfl
    have n1 := np 33 61 q1 (.inr (by omega)) rfl
    have n2 := np 60 61 q2 (by first | exact .inr (by omega) | exact .inl ⟨rfl, by omega⟩) rfl
    have n3 := np 62 61 q3 (by first | exact .inr (by omega) | exact .inl ⟨rfl, by omega⟩) rfl
    rw [show a + 1 - a = 1 by omega]
    unfold signF
    rw [if_neg n0, if_neg n1, if_neg n2, if_neg n3, h0]
    rw [if_neg r0]; rw [if_neg r1]; rw [if_neg r2]; rw [if_pos r3]; rfl
  by_cases r4 : bat s a = 41
  · have hs : signF s a = sgn 6 0 a 1 := by unfold signF; rw [if_neg q0]; rw [if_neg q1]; rw [if_neg q2]; rw [if_neg q3]; rw [if_neg r0]; rw [if_neg r1]; rw [if_neg r2]; rw [if_neg r3]; rw [if_pos r4]
    obtain ⟨rfl, rfl, rfl, rfl, rfl⟩ := one _ _ hs
    have n0 := np 58 45 q0 (.inr (by omega)) rfl
    have n1 := np 33 61 q1 (.inr (by omega)) rfl
    have n2 := np 60 61 q2 (by first | exact .inr (by omega) | exact .inl ⟨rfl, by omega⟩) rfl
    have n3 := np 62 61 q3 (by first | exact .inr (by omega) | exact .inl ⟨rfl, by omega⟩) rfl
    rw [show a + 1 - a = 1 by omega]
    unfold signF
    rw [if_neg n0, if_neg n1, if_neg n2, if_neg n3, h0]
    rw [if_neg r0]; rw [if_neg r1]; rw [if_neg r2]; rw [if_neg r3]; rw [if_pos r4]; rfl
  by_cases r5 : bat s a = 44
  · have hs : signF s a = sgn 7 0 a 1 := by unfold signF; rw [if_neg q0]; rw [if_neg q1]; rw [if_neg q2]; rw [if_neg q3]; rw [if_neg r0]; rw [if_neg r1]; rw [if_neg r2]; rw [if_neg r3]; rw [if_neg r4]; rw [if_pos r5]
    obtain ⟨rfl, rfl, rfl, rfl, rfl⟩ := one _ _ hs
    have n0 := np 58 45 q0 (.inr (by omega)) rfl
    have n1 := np 33 61 q1 (.inr (by omega)) rfl
    have n2 := np 60 61 q2 (by first | exact .inr (by omega) | exact .inl ⟨rfl, by omega⟩) rfl
    have n3 := np 62 61 q3 (by first | exact .inr (by omega) | exact .inl ⟨rfl, by omega⟩) rfl
    rw [show a + 1 - a = 1 by omega]
    unfold signF
    rw [if_neg n0, if_neg n1, if_neg n2, if_neg n3, h0]
    rw [if_neg r0]; rw [if_neg r1]; rw [if_neg r2]; rw [if_neg r3]; rw [if_neg r4]; rw [if_pos r5]; rfl
  by_cases r6 : bat s a = 46
  · have hs : signF s a = sgn 8 0 a 1 := by unfold signF; rw [if_neg q0]; rw [if_neg q1]; rw [if_neg q2]; rw [if_neg q3]; rw [if_neg r0]; rw [if_neg r1]; rw [if_neg r2]; rw [if_neg r3]; rw [if_neg r4]; rw [if_neg r5]; rw [if_pos r6]
    obtain ⟨rfl, rfl, rfl, rfl, rfl⟩ := one _ _ hs
    have n0 := np 58 45 q0 (.inr (by omega)) rfl
    have n1 := np 33 61 q1 (.inr (by omega)) rfl
    have n2 := np 60 61 q2 (by first | exact .inr (by omega) | exact .inl ⟨rfl, by omega⟩) rfl
    have n3 := np 62 61 q3 (by first | exact .inr (by omega) | exact .inl ⟨rfl, by omega⟩) rfl
    rw [show a + 1 - a = 1 by omega]
    unfold signF
    rw [if_neg n0, if_neg n1, if_neg n2, if_neg n3, h0]
    rw [if_neg r0]; rw [if_neg r1]; rw [if_neg r2]; rw [if_neg r3]; rw [if_neg r4]; rw [if_neg r5]; rw [if_pos r6]; rfl
  have hs : signF s a = .bad 10 a := by unfold signF; rw [if_neg q0]; rw [if_neg q1]; rw [if_neg q2]; rw [if_neg q3]; rw [if_neg r0]; rw [if_neg r1]; rw [if_neg r2]; rw [if_neg r3]; rw [if_neg r4]; rw [if_neg r5]; rw [if_neg r6]
  rw [hs] at h; cases h
theorem int_loc2 {s t : List UInt8} {a b q : Nat} {c : Int} {v : List UInt8} {n p : Int} {e : Nat} (hq : q = a ∨ q = a + 1) (hql : q < s.length) (hqd : dgB (bat s q) = true) (h : intF s a q = .ok (c, v, n, p, (a : Int), (e : Int))) (ha : Ag s t a b (e - a)) (hf : Fol2 s t a b (e - a)) :
    intF t b (b + (q - a)) = .ok (c, v, n, p, (b : Int), ((b + (e - a) : Nat) : Int)) := by
  have hr := run_word hql (by unfold wdB; rw [hqd]; rfl)
  have hre : runF s q = e := by
    unfold intF at h
    repeat' split at h
    all_goals first | (cases h; done) | (simp only [TR.ok.injEq, Prod.mk.injEq] at h; have := h.2.2.2.2.2; omega)
  rw [hre] at hr
  have hend : ¬ (a + (e - a) < s.length ∧ wdB (bat s (a + (e - a))) = true) := by
    rw [show a + (e - a) = e by omega, ← hre]; exact runF_end
  have hlast : wdB (bat t (b + (e - a) - 1)) = true := by
    have h1 := ha.2.2 (e - a - 1) (by omega)
    rw [show b + (e - a) - 1 = b + (e - a - 1) by omega, ← h1, show a + (e - a - 1) = e - 1 by omega]
    exact (runF_in (k := q) (by omega) (by omega)).2
  have hb := ha.sub (i := q - a) (m := e - q) (by omega)
  rw [show a + (q - a) = q by omega] at hb
  have hrt : runF t (b + (q - a)) = b + (e - a) := by
    have := run_loc hb (by rw [hre]; omega) (by rw [show b + (q - a) + (e - q) = b + (e - a) by omega]; exact fol_run2 (by omega) hlast hend hf)
    rw [this]; omega
  have hp := hb.piece
  rw [show q + (e - q) = e by omega, show b + (q - a) + (e - q) = b + (e - a) by omega] at hp
  unfold intF allDg at h ⊢
  rw [hrt, ← hp]
  rw [hre] at h
  by_cases h1 : (sub s q e).all (fun c => dgB c.toNat) = true
  · rw [if_pos h1] at h ⊢
    by_cases h2 : a < q
    · rw [if_pos h2] at h
      rw [if_pos (by omega)]
      by_cases h3 : decV (sub s q e) ≤ 9223372036854775808
      · rw [if_pos h3] at h ⊢
        simp only [TR.ok.injEq, Prod.mk.injEq, and_true] at h ⊢
        exact ⟨h.1, h.2.1, h.2.2.1, h.2.2.2⟩
      · rw [if_neg h3] at h; cases h
    · rw [if_neg h2] at h
      rw [if_neg (by omega)]
      by_cases h3 : decV (sub s q e) ≤ 9223372036854775807
      · rw [if_pos h3] at h ⊢
        simp only [TR.ok.injEq, Prod.mk.injEq, and_true] at h ⊢
        exact ⟨h.1, h.2.1, h.2.2.1, h.2.2.2⟩
      · rw [if_neg h3] at h; cases h
  · rw [if_neg h1] at h; cases h
theorem word_loc2 {s t : List UInt8} {a b : Nat} {c : Int} {v : List UInt8} {n p : Int} {e : Nat} (hw : wdB (bat s a) = true) (hal : a < s.length) (h : wordF s a = .ok (c, v, n, p, (a : Int), (e : Int))) (ha : Ag s t a b (e - a)) (hf : Fol2 s t a b (e - a)) :
    wordF t b = .ok (c, v, n, p, (b : Int), ((b + (e - a) : Nat) : Int)) := by
  have hr := run_word hal hw
  have hre : runF s a = e := by
    unfold wordF at h
    repeat' split at h
    all_goals first | (cases h; done) | (simp only [TR.ok.injEq, Prod.mk.injEq] at h; have := h.2.2.2.2.2; omega)
  rw [hre] at hr
  have hend : ¬ (a + (e - a) < s.length ∧ wdB (bat s (a + (e - a))) = true) := by
    rw [show a + (e - a) = e by omega, ← hre]; exact runF_end
  have hlast : wdB (bat t (b + (e - a) - 1)) = true := by
    have h1 := ha.2.2 (e - a - 1) (by omega)
    rw [show b + (e - a) - 1 = b + (e - a - 1) by omega, ← h1, show a + (e - a - 1) = e - 1 by omega]
    exact (runF_in (k := a) (by omega) (by omega)).2
  have hrt : runF t b = b + (e - a) := run_loc ha (by rw [hre]; omega) (fol_run2 (by omega) hlast hend hf)
  have hp := ha.piece
  rw [show a + (e - a) = e by omega] at hp
  have h0 : bat t b = bat s a := by have := ha.2.2 0 (by omega); simpa using this.symm
  unfold wordF at h ⊢
  rw [hrt, ← hp, h0]
  rw [hre] at h
  rw [show b + (e - a) - b = e - a by omega]
  repeat' split at h
  all_goals first | (cases h; done) | skip
  all_goals simp only [TR.ok.injEq, Prod.mk.injEq, and_true] at h
  · rename_i h1 h2
    rw [if_neg h1, if_pos h2]; simp [← h.1, ← h.2.1, ← h.2.2.1, ← h.2.2.2]
  · rename_i h1 h2 h3
    rw [if_neg h1, if_neg h2, if_pos h3]; simp [← h.1, ← h.2.1, ← h.2.2.1, ← h.2.2.2]
  · rename_i h1 h2 h3
    rw [if_neg h1, if_neg h2, if_neg h3]; simp [← h.1, ← h.2.1, ← h.2.2.1, ← h.2.2.2]
/-- A token hangs on its own bytes, and on what follows but little. -/
theorem tok_loc2 {s t : List UInt8} {a b : Nat} {c : Int} {v : List UInt8} {n p : Int} {e : Nat} (h : tokF s a = .ok (c, v, n, p, (a : Int), (e : Int))) (hc : c ≠ 0) (ha : Ag s t a b (e - a)) (hf : Fol2 s t a b (e - a)) :
    tokF t b = .ok (c, v, n, p, (b : Int), ((b + (e - a) : Nat) : Int)) := by
  have hal : a < s.length := by
    apply Decidable.byContradiction
    intro q
    unfold tokF at h
    rw [if_pos (by omega)] at h
    simp only [TR.ok.injEq, Prod.mk.injEq] at h
    exact hc h.1.symm
  have hae : a < e := by
    obtain ⟨c', v', n', p', e', h1, h2, h3, h4⟩ := tok_ok (by omega) h
    simp only [Prod.mk.injEq, true_and] at h1
    obtain ⟨rfl, -, -, -, he⟩ := h1
    have := h4 hc; omega
  have h0 : bat t b = bat s a := by have := ha.2.2 0 (by omega); simpa using this.symm
  have hbl : b < t.length := by have := ha.2.1; omega
  unfold tokF at h ⊢
  rw [if_neg (by omega)] at h ⊢
  rw [h0]
  by_cases hd : dgB (bat s a) = true
  · rw [if_pos hd] at h ⊢
    have := int_loc2 (.inl rfl) hal hd h ha hf
    rwa [show b + (a - a) = b by omega] at this
  rw [if_neg hd] at h ⊢
  by_cases hm : bat s a = 45 ∧ dgB (bat s (a + 1)) = true
  · rw [if_pos hm] at h
    have h1l : a + 1 < s.length := Nat.lt_of_not_le fun q => by have := hm.2; rw [bat_end q] at this; simp [dgB] at this
    have hr := run_word h1l (by unfold wdB; rw [hm.2]; rfl)
    have hre : runF s (a + 1) = e := by
      unfold intF at h
      repeat' split at h
      all_goals first | (cases h; done) | (simp only [TR.ok.injEq, Prod.mk.injEq] at h; have := h.2.2.2.2.2; omega)
    have h1 : bat t (b + 1) = bat s (a + 1) := (ha.2.2 1 (by omega)).symm
    rw [h1, if_pos hm]
    have := int_loc2 (.inr rfl) h1l hm.2 h ha hf
    rwa [show b + (a + 1 - a) = b + 1 by omega] at this
  rw [if_neg hm] at h
  have h45 : bat s a ≠ 45 := fun q => by
    rw [if_neg (by rw [q]; decide), if_neg (by omega), sign_45 q] at h; cases h
  rw [if_neg (fun q => h45 q.1)]
  by_cases hw : wdB (bat s a) = true
  · rw [if_pos hw] at h ⊢
    exact word_loc2 hw hal h ha hf
  rw [if_neg hw] at h ⊢
  by_cases h34 : bat s a = 34
  · rw [if_pos h34] at h ⊢
    obtain ⟨e', v', k1, k2, k3⟩ := txt_ok h
    simp only [Prod.mk.injEq, true_and] at k1
    obtain ⟨rfl, rfl, rfl, rfl, k4⟩ := k1
    have := txt_loc (p := b) (j := b + 1) h (by
      have := ha.sub (i := 1) (m := e - (a + 1)) (by omega)
      exact this)
    rw [this]
    congr 6
    omega
  · rw [if_neg h34] at h ⊢
    exact sign_loc2 hal h ha hf
open Go.Lib (decDigits)
/-! ### Integers -/
theorem decV_snoc (l : List UInt8) (c : UInt8) : decV (l ++ [c]) = decV l * 10 + (c.toNat - 48) := by unfold decV; rw [List.foldl_append]; rfl
theorem dig_toNat {n : Nat} (h : n < 10) : (UInt8.ofNat (48 + n)).toNat = 48 + n := by simp; omega
theorem dec_val (u : Nat) : decV (decDigits u) = u ∧ (∀ c ∈ decDigits u, dgB c.toNat = true) ∧ decDigits u ≠ [] := by
  rw [decDigits]
  split
  · rename_i h
    refine ⟨by unfold decV; rw [List.foldl_cons, List.foldl_nil, dig_toNat h]; omega, fun c hc => ?_, by simp⟩
    rw [List.mem_singleton.1 hc, dig_toNat h]
    unfold dgB; simp; omega
  · obtain ⟨h1, h2, h3⟩ := dec_val (u / 10)
    have hm : u % 10 < 10 := Nat.mod_lt _ (by decide)
    refine ⟨by rw [decV_snoc, h1, dig_toNat hm]; omega, fun c hc => ?_, by simp⟩
    rcases List.mem_append.1 hc with hc | hc
    · exact h2 c hc
    · rw [List.mem_singleton.1 hc, dig_toNat hm]
      unfold dgB; simp; omega
termination_by u
decreasing_by omega
theorem decV_zeros (n : Nat) (l : List UInt8) : decV (List.replicate n 48 ++ l) = decV l := by
  induction n with
  | zero => rfl
  | succ n ih =>
    have : decV (List.replicate (n + 1) 48 ++ l) = decV (List.replicate n 48 ++ l) := by
      rw [List.replicate_succ, List.cons_append]; unfold decV; rw [List.foldl_cons]; rfl
    rw [this, ih]
def zerosF (z : Int) : Nat := min z.toNat 20
def digF (v z : Int) : List UInt8 := List.replicate (zerosF z) 48 ++ decDigits v.natAbs
def intSp (v z : Int) : List UInt8 := if v < 0 then 45 :: digF v z else digF v z
theorem digF_ok (v z : Int) : decV (digF v z) = v.natAbs ∧ (∀ c ∈ digF v z, dgB c.toNat = true) ∧ digF v z ≠ [] := by
  obtain ⟨h1, h2, h3⟩ := dec_val v.natAbs
  refine ⟨by unfold digF; rw [decV_zeros, h1], fun c hc => ?_, by unfold digF; simp [h3]⟩
  rcases List.mem_append.1 hc with hc | hc
  · rw [(List.mem_replicate.1 hc).2]; decide
  · exact h2 c hc
theorem bat_mem {l : List UInt8} {i : Nat} (h : i < l.length) : ∃ c ∈ l, bat l i = c.toNat := by
  refine ⟨l[i], List.getElem_mem h, ?_⟩
  unfold bat; rw [List.getD_eq_getElem?_getD, List.getElem?_eq_getElem h]; rfl
theorem int_all {p d : List UInt8} (hd : ∀ c ∈ d, dgB c.toNat = true) (hne : d ≠ []) : runF (p ++ d) p.length = (p ++ d).length ∧ sub (p ++ d) p.length (p ++ d).length = d ∧ allDg (p ++ d) p.length (p ++ d).length = true ∧ dgB (bat (p ++ d) p.length) = true := by
  have hb : ∀ i, p.length ≤ i → i < (p ++ d).length → dgB (bat (p ++ d) i) = true := fun i h1 h2 => by
    have e := bat_appR (s := p) (t := d) (i := i - p.length)
    rw [show p.length + (i - p.length) = i by omega] at e
    rw [List.length_append] at h2
    obtain ⟨c, hc, hx⟩ := bat_mem (l := d) (i := i - p.length) (by omega)
    rw [e, hx]; exact hd c hc
  have hsub : sub (p ++ d) p.length (p ++ d).length = d := by unfold sub; rw [List.take_length, List.drop_left]
  refine ⟨runF_is (by simp) (Nat.le_refl _) (fun i h1 h2 => by unfold wdB; rw [hb i h1 h2]; rfl) (fun q => by omega), hsub, ?_, hb _ (Nat.le_refl _) (by rw [List.length_append]; have := List.length_pos_iff.2 hne; omega)⟩
  unfold allDg; rw [hsub, List.all_eq_true]; exact hd
theorem int_tok {v z : Int} (hv : -9223372036854775808 ≤ v ∧ v ≤ 9223372036854775807) : tokF (intSp v z) 0 = .ok (3, [], v, 0, 0, ((intSp v z).length : Int)) := by
  obtain ⟨h1, h2, h3⟩ := digF_ok v z
  have hp := List.length_pos_iff.2 h3
  by_cases hn : v < 0
  · have e : intSp v z = [45] ++ digF v z := by unfold intSp; rw [if_pos hn]; rfl
    rw [e]
    obtain ⟨r1, r2, r3, r4⟩ := int_all (p := [45]) h2 h3
    have b0 : bat ([45] ++ digF v z) 0 = 45 := rfl
    unfold tokF
    rw [if_neg (by simp), b0, if_neg (by decide), if_pos ⟨rfl, r4⟩]
    unfold intF
    rw [show (0 : Nat) + 1 = ([45] : List UInt8).length from rfl, r1, r3, r2, h1, if_pos rfl, if_pos (by decide), if_pos (by omega)]
    rw [show -((v.natAbs : Nat) : Int) = v by omega]
    rfl
  · have e : intSp v z = [] ++ digF v z := by unfold intSp; rw [if_neg hn]; rfl
    rw [e]
    obtain ⟨r1, r2, r3, r4⟩ := int_all (p := []) h2 h3
    unfold tokF
    rw [if_neg (by simp; exact h3), show (0 : Nat) = ([] : List UInt8).length from rfl, if_pos r4]
    unfold intF
    rw [r1, r3, r2, h1, if_pos rfl, if_neg (by decide), if_pos (by omega)]
    rw [show ((v.natAbs : Nat) : Int) = v by omega]
    rfl
/-! ### Words -/
def smB (c : Nat) : Bool := loB c
def bgB (c : Nat) : Bool := upB c || decide (c = 95)
def wordOKF (w : List UInt8) (name : Bool) : Bool := decide (w ≠ []) && decide (w.length ≤ 64) && decide (w ≠ [110, 111, 116]) && (if name then smB (bat w 0) else bgB (bat w 0)) && w.all fun c => wdB c.toNat
theorem word_tok {w : List UInt8} {name : Bool} (h : wordOKF w name = true) : tokF w 0 = .ok (if name then 1 else 2, w, 0, 0, 0, (w.length : Int)) := by
  unfold wordOKF at h
  simp only [Bool.and_eq_true, decide_eq_true_eq] at h
  obtain ⟨⟨⟨⟨h1, h2⟩, h3⟩, h4⟩, h5⟩ := h
  have hp := List.length_pos_iff.2 h1
  rw [List.all_eq_true] at h5
  have hb : ∀ i, i < w.length → wdB (bat w i) = true := fun i hi => by
    obtain ⟨c, hc, hx⟩ := bat_mem hi
    rw [hx]; exact h5 c hc
  have hr : runF w 0 = w.length := runF_is (Nat.zero_le _) (Nat.le_refl _) (fun i _ h2 => hb i h2) (fun q => by omega)
  have hs : sub w 0 w.length = w := by unfold sub; rw [List.take_length, List.drop_zero]
  have hc : dgB (bat w 0) = false ∧ bat w 0 ≠ 45 ∧ (loB (bat w 0) = name) := by
    cases name with
    | true =>
      simp only [if_true, smB, loB, Bool.and_eq_true, decide_eq_true_eq] at h4
      refine ⟨?_, by omega, ?_⟩
      · unfold dgB; simp; omega
      · unfold loB; simp; omega
    | false =>
      simp only [Bool.false_eq_true, if_false, bgB, upB, Bool.or_eq_true, Bool.and_eq_true, decide_eq_true_eq] at h4
      refine ⟨?_, by omega, ?_⟩
      · unfold dgB; simp; omega
      · unfold loB; simp; omega
  unfold tokF
  rw [if_neg (by omega), if_neg (by rw [hc.1]; simp), if_neg (fun q => hc.2.1 q.1), if_pos (hb 0 hp)]
  unfold wordF
  rw [hr, hs, if_neg (by omega), if_neg h3]
  cases name with
  | true => rw [if_pos hc.2.2]; rfl
  | false => rw [if_neg (by rw [hc.2.2]; simp)]; rfl
/-! ### Texts -/
def letF (c : Nat) : Nat := if c = 34 ∨ c = 92 then c else if c = 10 then 110 else if c = 9 then 116 else if c = 13 then 114 else 0
def hexD (n : Nat) : Nat := if n < 10 then 48 + n else 87 + n
def segF (style : Int) (c : UInt8) : List UInt8 :=
  if letF c.toNat ≠ 0 ∧ style ≠ 2 then [92, UInt8.ofNat (letF c.toNat)]
  else if c.toNat < 32 ∨ style = 2 ∨ letF c.toNat ≠ 0 then [92, 120, UInt8.ofNat (hexD (c.toNat / 16)), UInt8.ofNat (hexD (c.toNat % 16))]
  else [c]
def bodyF (style : Int) (v : List UInt8) : List UInt8 := v.flatMap (segF style)
def textSp (style : Int) (v : List UInt8) : List UInt8 := 34 :: (bodyF style v ++ [34])
theorem hexV_D {n : Nat} (h : n < 16) : hexV (hexD n) = some n := by
  have : ∀ n : Fin 16, hexV (hexD n.val) = some n.val := by decide
  exact this ⟨n, h⟩
theorem hexD_lt {n : Nat} (h : n < 16) : hexD n < 256 := by unfold hexD; split <;> omega
theorem ofNat_back {n : Nat} (h : n < 256) : (UInt8.ofNat n).toNat = n := by simpa using h
theorem let_back {c : Nat} (h : letF c ≠ 0) : letF c < 256 ∧ ∀ s : List UInt8, ∀ i : Nat, bat s (i + 1) = letF c → escF s i = (c, 2) := by
  unfold letF at h ⊢
  split at h
  · rename_i q
    rw [if_pos q]
    rcases q with rfl | rfl
    · exact ⟨by decide, fun s i hb => by unfold escF; rw [hb]; simp⟩
    · exact ⟨by decide, fun s i hb => by unfold escF; rw [hb]; simp⟩
  · rename_i q
    rw [if_neg q]
    split at h
    · rename_i q2; subst q2; rw [if_pos rfl]; exact ⟨by decide, fun s i hb => by unfold escF; rw [hb]; simp⟩
    · rename_i q2
      rw [if_neg q2]
      split at h
      · rename_i q3; subst q3; rw [if_pos rfl]; exact ⟨by decide, fun s i hb => by unfold escF; rw [hb]; simp⟩
      · rename_i q3
        rw [if_neg q3]
        split at h
        · rename_i q4; subst q4; rw [if_pos rfl]; exact ⟨by decide, fun s i hb => by unfold escF; rw [hb]; simp⟩
        · exact absurd rfl h
theorem bat_cons (c : UInt8) (l : List UInt8) : bat (c :: l) 0 = c.toNat ∧ ∀ i, bat (c :: l) (i + 1) = bat l i := ⟨rfl, fun i => by unfold bat; simp [List.getD_eq_getElem?_getD]⟩
theorem txt_body {s : List UInt8} {o : Nat} {style : Int} : ∀ {v acc : List UInt8} {i : Nat}, acc.length + v.length ≤ 255 → i + (bodyF style v ++ [34]).length ≤ s.length → (∀ j, j < (bodyF style v ++ [34]).length → bat s (i + j) = bat (bodyF style v ++ [34]) j) →
    txtF s o i acc = .ok (4, acc ++ v, 0, 0, (o : Int), ((i + (bodyF style v ++ [34]).length : Nat) : Int))
  | [], acc, i, hl, hs, hb => by
    have b0 := hb 0 (by simp [bodyF])
    have e : bodyF style [] ++ [34] = [34] := rfl
    rw [e] at b0 hs ⊢
    have b0' : bat s i = 34 := b0
    simp only [List.length_singleton] at hs ⊢
    rw [txtF, if_pos ⟨by omega, by omega⟩, if_pos b0', List.append_nil]
  | c :: v, acc, i, hl, hs, hb => by
    have e : bodyF style (c :: v) ++ [34] = segF style c ++ (bodyF style v ++ [34]) := by unfold bodyF; rw [List.flatMap_cons, List.append_assoc]
    rw [e] at hs hb ⊢
    rw [List.length_append] at hs ⊢
    rw [List.length_cons] at hl
    have hc256 : c.toNat < 256 := UInt8.toNat_lt c
    have rest : ∀ n, n = (segF style c).length → txtF s o (i + n) (acc ++ [c]) = .ok (4, acc ++ c :: v, 0, 0, (o : Int), ((i + (n + (bodyF style v ++ [34]).length) : Nat) : Int)) := fun n hn => by
      subst hn
      have ih := txt_body (s := s) (o := o) (style := style) (v := v) (acc := acc ++ [c]) (i := i + (segF style c).length) (by rw [List.length_append, List.length_singleton]; omega) (by omega) (fun j hj => by
        have h := hb ((segF style c).length + j) (by rw [List.length_append]; omega)
        rw [← Nat.add_assoc] at h
        rw [h, bat_appR])
      rw [ih, List.append_assoc, List.singleton_append, Nat.add_assoc]
    have hg : ∀ j, j < (segF style c).length → bat s (i + j) = bat (segF style c) j := fun j hj => by
      rw [hb j (by rw [List.length_append]; omega), bat_app hj]
    have hne : ¬ acc.length = 255 := by omega
    by_cases h1 : letF c.toNat ≠ 0 ∧ style ≠ 2
    · have hS : segF style c = [92, UInt8.ofNat (letF c.toNat)] := by unfold segF; rw [if_pos h1]
      rw [hS] at rest hg hs ⊢
      obtain ⟨l1, l2⟩ := let_back h1.1
      have g0 : bat s i = 92 := hg 0 (by simp)
      have g1 : bat s (i + 1) = letF c.toNat := by have := hg 1 (by simp); rw [this]; show (UInt8.ofNat (letF c.toNat)).toNat = _; exact ofNat_back l1
      have he := l2 s i g1
      simp only [List.length_cons, List.length_nil] at hs rest ⊢
      rw [txtF, if_pos ⟨by omega, by omega⟩, if_neg (by omega), if_pos g0, he, if_neg (show ¬ (2 : Nat) = 0 by decide), if_neg hne]
      simp only [UInt8.ofNat_toNat]
      exact rest 2 rfl
    · by_cases h2 : c.toNat < 32 ∨ style = 2 ∨ letF c.toNat ≠ 0
      · have hS : segF style c = [92, 120, UInt8.ofNat (hexD (c.toNat / 16)), UInt8.ofNat (hexD (c.toNat % 16))] := by unfold segF; rw [if_neg h1, if_pos h2]
        rw [hS] at rest hg hs ⊢
        have d1 : c.toNat / 16 < 16 := by omega
        have d2 : c.toNat % 16 < 16 := Nat.mod_lt _ (by decide)
        have g0 : bat s i = 92 := hg 0 (by simp)
        have g1 : bat s (i + 1) = 120 := hg 1 (by simp)
        have g2 : bat s (i + 2) = hexD (c.toNat / 16) := by have := hg 2 (by simp); rw [this]; show (UInt8.ofNat (hexD (c.toNat / 16))).toNat = _; exact ofNat_back (hexD_lt d1)
        have g3 : bat s (i + 3) = hexD (c.toNat % 16) := by have := hg 3 (by simp); rw [this]; show (UInt8.ofNat (hexD (c.toNat % 16))).toNat = _; exact ofNat_back (hexD_lt d2)
        have he : escF s i = (c.toNat, 4) := by
          unfold escF
          rw [g1, g2, g3, hexV_D d1, hexV_D d2]
          simp only [show ¬ (120 : Nat) = 34 by decide, show ¬ (120 : Nat) = 92 by decide, show ¬ (120 : Nat) = 110 by decide, show ¬ (120 : Nat) = 116 by decide, show ¬ (120 : Nat) = 114 by decide, if_false, if_true]
          congr 1; omega
        simp only [List.length_cons, List.length_nil] at hs rest ⊢
        rw [txtF, if_pos ⟨by omega, by omega⟩, if_neg (by omega), if_pos g0, he, if_neg (show ¬ (4 : Nat) = 0 by decide), if_neg hne]
        simp only [UInt8.ofNat_toNat]
        exact rest 4 rfl
      · have hS : segF style c = [c] := by unfold segF; rw [if_neg h1, if_neg h2]
        rw [hS] at rest hg hs ⊢
        have h3 : ¬ c.toNat < 32 ∧ letF c.toNat = 0 := by
          refine ⟨fun q => h2 (.inl q), Decidable.byContradiction fun q => h2 (.inr (.inr q))⟩
        have g0 : bat s i = c.toNat := hg 0 (by simp)
        have h34 : ¬ c.toNat = 34 := fun q => by rw [q] at h3; exact absurd h3.2 (by decide)
        have h92 : ¬ c.toNat = 92 := fun q => by rw [q] at h3; exact absurd h3.2 (by decide)
        simp only [List.length_cons, List.length_nil] at hs rest ⊢
        rw [txtF, if_pos ⟨by omega, by omega⟩, if_neg (by omega), if_neg (by omega), if_neg hne, g0]
        simp only [UInt8.ofNat_toNat]
        exact rest 1 rfl
theorem text_tok {style : Int} {v : List UInt8} (hv : v.length ≤ 255) : tokF (textSp style v) 0 = .ok (4, v, 0, 0, 0, ((textSp style v).length : Int)) := by
  have hl : (textSp style v).length = 1 + (bodyF style v ++ [34]).length := by unfold textSp; rw [List.length_cons]; omega
  have b0 : bat (textSp style v) 0 = 34 := rfl
  have := txt_body (s := textSp style v) (o := 0) (style := style) (v := v) (acc := []) (i := 1) (by simp; omega) (by omega) (fun j hj => by
    unfold textSp; rw [Nat.add_comm]; exact (bat_cons _ _).2 j)
  unfold tokF
  rw [if_neg (by omega), b0, if_neg (by decide), if_neg (fun q => absurd q.1 (by decide)), if_neg (by decide), if_pos rfl, this, hl, List.nil_append]
  rfl
def lastE (k : Nat) (l : List Tok) : Nat := match l.getLast? with | some t => eN t | none => k
theorem lastE_cons (k : Nat) (t : Tok) (l : List Tok) : lastE k (t :: l) = lastE (eN t) l := by
  unfold lastE
  cases l with
  | nil => rfl
  | cons a l =>
    rw [List.getLast?_cons_cons]
    cases h : (a :: l).getLast? with
    | none => simp at h
    | some _ => rfl
/-- Tokens stay where they are when more is laid behind the text, if the last byte and the next do not run together. -/
theorem put_keep {s x : List UInt8} (hx : ∀ i, i < s.length → bat x i = bat s i) (hl : s.length < x.length) (hc : (wdB (bat x (s.length - 1)) = true → wdB (bat x s.length) = false) ∧ (bat x (s.length - 1) = 60 ∨ bat x (s.length - 1) = 62 → bat x s.length ≠ 61)) :
    ∀ {l : List Tok} {k : Nat}, k ≤ s.length → (∀ t ∈ l, t.1 ≠ 0) → scanK s k = (l ++ [endT s.length], 0, 0) → lastE k l ≤ s.length ∧ scanK x k = (l ++ (scanK x (lastE k l)).1, (scanK x (lastE k l)).2)
  | [], k, hk, _, _ => ⟨hk, rfl⟩
  | t :: l, k, hk, hr, h => by
    obtain ⟨h1, h2⟩ := scan_cons hk h
    have ht := hr t (by simp)
    obtain ⟨h2, h3⟩ : t.1 ≠ 0 ∧ scanK s t.2.2.2.2.2.toNat = (l ++ [endT s.length], 0, 0) := h2.resolve_left (fun q => ht q.1)
    obtain ⟨c, v, n, p, o, e, rfl, q1, q2, q3, q4⟩ := next_ok hk h1
    simp only at h2
    rw [Int.toNat_natCast] at h3
    have hoe := q4 h2
    obtain ⟨n1, n2⟩ := next_at hk h1
    have hle := gap_le hk
    rw [n1] at hle
    have hag : Ag s x k k (e - k) := ⟨by omega, by omega, fun i hi => (hx _ (by omega)).symm⟩
    have hag1 : Ag s x k k (o - k) := by have := hag.sub (i := 0) (m := o - k) (by omega); simpa using this
    have hag2 : Ag s x o o (e - o) := ⟨by omega, by omega, fun i hi => (hx _ (by omega)).symm⟩
    have hf : Fol2 s x o o (e - o) := by
      unfold Fol2
      rw [show o + (e - o) = e by omega]
      by_cases he : e = s.length
      · rw [he]; exact .inr (.inl hc)
      · exact .inr (.inr ⟨by omega, by omega, hx e (by omega)⟩)
    have hg := gap_skip n1 hk hag1 (.inl (show o < s.length by omega))
    rw [show k + (o - k) = o by omega] at hg
    have hto := tok_loc2 n2 h2 hag2 hf
    rw [show o + (e - o) = e by omega] at hto
    have hn : nextF x k = .ok (c, v, n, p, (o : Int), (e : Int)) := by unfold nextF; rw [hg, gap_tok (by omega) hto]; exact hto
    have hee : eN (c, v, n, p, (o : Int), (e : Int)) = e := by simp [eN]
    obtain ⟨r1, r2⟩ := put_keep hx hl hc (l := l) (k := e) q2 (fun t ht => hr t (List.mem_cons_of_mem _ ht)) h3
    rw [lastE_cons, hee]
    refine ⟨r1, ?_⟩
    rw [scanK_on (by omega) hn h2]
    simp only [Int.toNat_natCast]
    rw [r2]
    rfl
theorem gap_fixed {g x : List UInt8} {b : Nat} (hg : gapF (g ++ [40]) 0 = (g.length, true)) (hx : ∀ i, i < g.length → bat x (b + i) = bat g i) (hl : b + g.length ≤ x.length) : gapF x b = gapF x (b + g.length) := by
  have ha : Ag (g ++ [40]) x 0 b (g.length - 0) := ⟨by simp, by omega, fun i hi => by rw [Nat.zero_add, bat_app (by omega), hx i (by omega)]⟩
  have := gap_skip hg (Nat.zero_le _) ha (.inl (by simp))
  simpa using this
end Edict
