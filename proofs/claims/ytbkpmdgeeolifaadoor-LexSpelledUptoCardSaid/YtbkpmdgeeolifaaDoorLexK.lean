/- A token's place in a text: what follows it does no harm, more finely; and how tokens are spelled. -/
import Derived.Test.YtbkpmdgeeolifaaDoorLexR
import Derived.Lib.ItoaNum
namespace Edict
/-- What may follow a token of n bytes at b of t, that stands at a of s: no two word bytes run together, and no = behind < or >. -/
def Fol2 (s t : List UInt8) (a b n : Nat) : Prop := b + n = t.length ∨ ((wdB (bat t (b + n - 1)) = true → wdB (bat t (b + n)) = false) ∧ (bat t (b + n - 1) = 60 ∨ bat t (b + n - 1) = 62 → bat t (b + n) ≠ 61)) ∨ (a + n < s.length ∧ b + n < t.length ∧ bat t (b + n) = bat s (a + n))
theorem fol_run2 {s t : List UInt8} {a b n : Nat} (hn : 0 < n) (hl : wdB (bat t (b + n - 1)) = true) (hr : ¬ (a + n < s.length ∧ wdB (bat s (a + n)) = true)) (h : Fol2 s t a b n) : ¬ (b + n < t.length ∧ wdB (bat t (b + n)) = true) := by
  rintro ⟨h1, h2⟩
  rcases h with h | h | h
  · omega
  · rw [h.1 hl] at h2; cases h2
  · exact hr ⟨h.1, by rw [← h.2.2]; exact h2⟩
theorem sign_loc2 {s t : List UInt8} {a b : Nat} {c p : Int} {e : Nat} {v : List UInt8} {n : Int} (ho : a < s.length) (h : signF s a = .ok (c, v, n, p, (a : Int), (e : Int))) (ha : Ag s t a b (e - a)) (hf : Fol2 s t a b (e - a)) :
    signF t b = .ok (c, v, n, p, (b : Int), ((b + (e - a) : Nat) : Int)) := by
  have hae : a < e := by
    obtain ⟨c', p', e', h1, h2, h3, h4⟩ := sign_ok ho h
    simp only [Prod.mk.injEq, true_and] at h1
    have := h1.2.2.2.2; omega
  have two : ∀ k op, signF s a = sgn k op a 2 → (∀ x y, pr t b x y = pr s a x y → True) → e = a + 2 ∧ c = k ∧ p = op ∧ v = [] ∧ n = 0 := by
    intro k op h1 _
    rw [h1] at h
    simp only [sgn, TR.ok.injEq, Prod.mk.injEq, true_and] at h
    exact ⟨by have := h.2.2.2.2; omega, h.1.symm, h.2.2.2.1.symm, h.2.1.symm, h.2.2.1.symm⟩
  have one : ∀ k op, signF s a = sgn k op a 1 → e = a + 1 ∧ c = k ∧ p = op ∧ v = [] ∧ n = 0 := by
    intro k op h1
    rw [h1] at h
    simp only [sgn, TR.ok.injEq, Prod.mk.injEq, true_and] at h
    exact ⟨by have := h.2.2.2.2; omega, h.1.symm, h.2.2.2.1.symm, h.2.1.symm, h.2.2.1.symm⟩
  have h0 : bat t b = bat s a := by have := ha.2.2 0 (by omega); simpa using this.symm
  by_cases q0 : pr s a 58 45 = true
  · have hs : signF s a = sgn 9 0 a 2 := by unfold signF; rw [if_pos q0]
    obtain ⟨rfl, rfl, rfl, rfl, rfl⟩ := two _ _ hs (fun _ _ _ => trivial)
    rw [show a + 2 - a = 2 by omega] at ha ⊢
    unfold signF
    simp only [pr_loc2 ha]
    rw [if_pos q0]; rfl
  by_cases q1 : pr s a 33 61 = true
  · have hs : signF s a = sgn 11 2 a 2 := by unfold signF; rw [if_neg q0]; rw [if_pos q1]
    obtain ⟨rfl, rfl, rfl, rfl, rfl⟩ := two _ _ hs (fun _ _ _ => trivial)
    rw [show a + 2 - a = 2 by omega] at ha ⊢
    unfold signF
    simp only [pr_loc2 ha]
    rw [if_neg q0]; rw [if_pos q1]; rfl
  by_cases q2 : pr s a 60 61 = true
  · have hs : signF s a = sgn 11 4 a 2 := by unfold signF; rw [if_neg q0]; rw [if_neg q1]; rw [if_pos q2]
    obtain ⟨rfl, rfl, rfl, rfl, rfl⟩ := two _ _ hs (fun _ _ _ => trivial)
    rw [show a + 2 - a = 2 by omega] at ha ⊢
    unfold signF
    simp only [pr_loc2 ha]
    rw [if_neg q0]; rw [if_neg q1]; rw [if_pos q2]; rfl
  by_cases q3 : pr s a 62 61 = true
  · have hs : signF s a = sgn 11 6 a 2 := by unfold signF; rw [if_neg q0]; rw [if_neg q1]; rw [if_neg q2]; rw [if_pos q3]
    obtain ⟨rfl, rfl, rfl, rfl, rfl⟩ := two _ _ hs (fun _ _ _ => trivial)
    rw [show a + 2 - a = 2 by omega] at ha ⊢
    unfold signF
    simp only [pr_loc2 ha]
    rw [if_neg q0]; rw [if_neg q1]; rw [if_neg q2]; rw [if_pos q3]; rfl
  -- one byte
  have np : ∀ x y, ¬ pr s a x y = true → ((y = 61 ∧ (bat s a = 60 ∨ bat s a = 62)) ∨ bat s a ≠ x) → e = a + 1 → ¬ pr t b x y = true := by
    intro x y hq hy he hp
    subst he
    rw [show a + 1 - a = 1 by omega] at ha hf
    rw [pr_eq] at hp
    simp only [Bool.and_eq_true, decide_eq_true_eq] at hp
    rcases hy with ⟨rfl, hy⟩ | hy
    · rcases hf with hf | hf | hf
      · omega
      · rw [Nat.add_sub_cancel, h0] at hf; exact hf.2 hy hp.2
      · refine hq ?_
        rw [pr_eq]
        simp only [Bool.and_eq_true, decide_eq_true_eq]
        exact ⟨⟨hf.1, by rw [← h0]; exact hp.1.2⟩, by rw [← hf.2.2]; exact hp.2⟩
    · exact hy (by rw [← h0]; exact hp.1.2)
  by_cases r0 : bat s a = 60
  · have hs : signF s a = sgn 11 3 a 1 := by unfold signF; rw [if_neg q0]; rw [if_neg q1]; rw [if_neg q2]; rw [if_neg q3]; rw [if_pos r0]
    obtain ⟨rfl, rfl, rfl, rfl, rfl⟩ := one _ _ hs
    have n0 := np 58 45 q0 (.inr (by omega)) rfl
    have n1 := np 33 61 q1 (.inr (by omega)) rfl
    have n2 := np 60 61 q2 (by first | exact .inr (by omega) | exact .inl ⟨rfl, by omega⟩) rfl
    have n3 := np 62 61 q3 (by first | exact .inr (by omega) | exact .inl ⟨rfl, by omega⟩) rfl
    rw [show a + 1 - a = 1 by omega]
    unfold signF
    rw [if_neg n0, if_neg n1, if_neg n2, if_neg n3, h0]
    rw [if_pos r0]; rfl
  by_cases r1 : bat s a = 62
  · have hs : signF s a = sgn 11 5 a 1 := by unfold signF; rw [if_neg q0]; rw [if_neg q1]; rw [if_neg q2]; rw [if_neg q3]; rw [if_neg r0]; rw [if_pos r1]
    obtain ⟨rfl, rfl, rfl, rfl, rfl⟩ := one _ _ hs
    have n0 := np 58 45 q0 (.inr (by omega)) rfl
    have n1 := np 33 61 q1 (.inr (by omega)) rfl
    have n2 := np 60 61 q2 (by first | exact .inr (by omega) | exact .inl ⟨rfl, by omega⟩) rfl
    have n3 := np 62 61 q3 (by first | exact .inr (by omega) | exact .inl ⟨rfl, by omega⟩) rfl
    rw [show a + 1 - a = 1 by omega]
    unfold signF
    rw [if_neg n0, if_neg n1, if_neg n2, if_neg n3, h0]
    rw [if_neg r0]; rw [if_pos r1]; rfl
  by_cases r2 : bat s a = 61
  · have hs : signF s a = sgn 11 1 a 1 := by unfold signF; rw [if_neg q0]; rw [if_neg q1]; rw [if_neg q2]; rw [if_neg q3]; rw [if_neg r0]; rw [if_neg r1]; rw [if_pos r2]
    obtain ⟨rfl, rfl, rfl, rfl, rfl⟩ := one _ _ hs
    have n0 := np 58 45 q0 (.inr (by omega)) rfl
    have n1 := np 33 61 q1 (.inr (by omega)) rfl
    have n2 := np 60 61 q2 (by first | exact .inr (by omega) | exact .inl ⟨rfl, by omega⟩) rfl
    have n3 := np 62 61 q3 (by first | exact .inr (by omega) | exact .inl ⟨rfl, by omega⟩) rfl
    rw [show a + 1 - a = 1 by omega]
    unfold signF
    rw [if_neg n0, if_neg n1, if_neg n2, if_neg n3, h0]
    rw [if_neg r0]; rw [if_neg r1]; rw [if_pos r2]; rfl
  by_cases r3 : bat s a = 40
  · have hs : signF s a = sgn 5 0 a 1 := by unfold signF; rw [if_neg q0]; rw [if_neg q1]; rw [if_neg q2]; rw [if_neg q3]; rw [if_neg r0]; rw [if_neg r1]; rw [if_neg r2]; rw [if_pos r3]
    obtain ⟨rfl, rfl, rfl, rfl, rfl⟩ := one _ _ hs
    have n0 := np 58 45 q0 (.inr (by omega)) rfl
    have n1 := np 33 61 q1 (.inr (by omega)) rfl
    have n2 := np 60 61 q2 (by first | exact .inr (by omega) | exact .inl ⟨rfl, by omega⟩) rfl
    have n3 := np 62 61 q3 (by first | exact .inr (by omega) | exact .inl ⟨rfl, by omega⟩) rfl
    rw [show a + 1 - a = 1 by omega]
    unfold signF
    rw [if_neg n0, if_neg n1, if_neg n2, if_neg n3, h0]
    rw [if_neg r0]; rw [if_neg r1]; rw [if_neg r2]; rw [if_pos r3]; rfl
  by_cases r4 : bat s a = 41
  · have hs : signF s a = sgn 6 0 a 1 := by unfold signF; rw [if_neg q0]; rw [if_neg q1]; rw [if_neg q2]; rw [if_neg q3]; rw [if_neg r0]; rw [if_neg r1]; rw [if_neg r2]; rw [if_neg r3]; rw [if_pos r4]
    obtain ⟨rfl, rfl, rfl, rfl, rfl⟩ := one _ _ hs
    have n0 := np 58 45 q0 (.inr (by omega)) rfl
    have n1 := np 33 61 q1 (.inr (by omega)) rfl
    have n2 := np 60 61 q2 (by first | exact .inr (by omega) | exact .inl ⟨rfl, by omega⟩) rfl
    have n3 := np 62 61 q3 (by first | exact .inr (by omega) | exact .inl ⟨rfl, by omega⟩) rfl
    rw [show a + 1 - a = 1 by omega]
    unfold signF
    rw [if_neg n0, if_neg n1, if_neg n2, if_neg n3, h0]
    rw [if_neg r0]; rw [if_neg r1]; rw [if_neg r2]; rw [if_neg r3]; rw [if_pos r4]; rfl
  by_cases r5 : bat s a = 44
  · have hs : signF s a = sgn 7 0 a 1 := by unfold signF; rw [if_neg q0]; rw [if_neg q1]; rw [if_neg q2]; rw [if_neg q3]; rw [if_neg r0]; rw [if_neg r1]; rw [if_neg r2]; rw [if_neg r3]; rw [if_neg r4]; rw [if_pos r5]
    obtain ⟨rfl, rfl, rfl, rfl, rfl⟩ := one _ _ hs
    have n0 := np 58 45 q0 (.inr (by omega)) rfl
    have n1 := np 33 61 q1 (.inr (by omega)) rfl
    have n2 := np 60 61 q2 (by first | exact .inr (by omega) | exact .inl ⟨rfl, by omega⟩) rfl
    have n3 := np 62 61 q3 (by first | exact .inr (by omega) | exact .inl ⟨rfl, by omega⟩) rfl
    rw [show a + 1 - a = 1 by omega]
    unfold signF
    rw [if_neg n0, if_neg n1, if_neg n2, if_neg n3, h0]
    rw [if_neg r0]; rw [if_neg r1]; rw [if_neg r2]; rw [if_neg r3]; rw [if_neg r4]; rw [if_pos r5]; rfl
  by_cases r6 : bat s a = 46
  · have hs : signF s a = sgn 8 0 a 1 := by unfold signF; rw [if_neg q0]; rw [if_neg q1]; rw [if_neg q2]; rw [if_neg q3]; rw [if_neg r0]; rw [if_neg r1]; rw [if_neg r2]; rw [if_neg r3]; rw [if_neg r4]; rw [if_neg r5]; rw [if_pos r6]
    obtain ⟨rfl, rfl, rfl, rfl, rfl⟩ := one _ _ hs
    have n0 := np 58 45 q0 (.inr (by omega)) rfl
    have n1 := np 33 61 q1 (.inr (by omega)) rfl
    have n2 := np 60 61 q2 (by first | exact .inr (by omega) | exact .inl ⟨rfl, by omega⟩) rfl
    have n3 := np 62 61 q3 (by first | exact .inr (by omega) | exact .inl ⟨rfl, by omega⟩) rfl
    rw [show a + 1 - a = 1 by omega]
    unfold signF
    rw [if_neg n0, if_neg n1, if_neg n2, if_neg n3, h0]
    rw [if_neg r0]; rw [if_neg r1]; rw [if_neg r2]; rw [if_neg r3]; rw [if_neg r4]; rw [if_neg r5]; rw [if_pos r6]; rfl
  have hs : signF s a = .bad 10 a := by unfold signF; rw [if_neg q0]; rw [if_neg q1]; rw [if_neg q2]; rw [if_neg q3]; rw [if_neg r0]; rw [if_neg r1]; rw [if_neg r2]; rw [if_neg r3]; rw [if_neg r4]; rw [if_neg r5]; rw [if_neg r6]
  rw [hs] at h; cases h
theorem int_loc2 {s t : List UInt8} {a b q : Nat} {c : Int} {v : List UInt8} {n p : Int} {e : Nat} (hq : q = a ∨ q = a + 1) (hql : q < s.length) (hqd : dgB (bat s q) = true) (h : intF s a q = .ok (c, v, n, p, (a : Int), (e : Int))) (ha : Ag s t a b (e - a)) (hf : Fol2 s t a b (e - a)) :
    intF t b (b + (q - a)) = .ok (c, v, n, p, (b : Int), ((b + (e - a) : Nat) : Int)) := by
  have hr := run_word hql (by unfold wdB; rw [hqd]; rfl)
  have hre : runF s q = e := by
    unfold intF at h
    repeat' split at h
    all_goals first | (cases h; done) | (simp only [TR.ok.injEq, Prod.mk.injEq] at h; have := h.2.2.2.2.2; omega)
  rw [hre] at hr
  have hend : ¬ (a + (e - a) < s.length ∧ wdB (bat s (a + (e - a))) = true) := by
    rw [show a + (e - a) = e by omega, ← hre]; exact runF_end
  have hlast : wdB (bat t (b + (e - a) - 1)) = true := by
    have h1 := ha.2.2 (e - a - 1) (by omega)
    rw [show b + (e - a) - 1 = b + (e - a - 1) by omega, ← h1, show a + (e - a - 1) = e - 1 by omega]
    exact (runF_in (k := q) (by omega) (by omega)).2
  have hb := ha.sub (i := q - a) (m := e - q) (by omega)
  rw [show a + (q - a) = q by omega] at hb
  have hrt : runF t (b + (q - a)) = b + (e - a) := by
    have := run_loc hb (by rw [hre]; omega) (by rw [show b + (q - a) + (e - q) = b + (e - a) by omega]; exact fol_run2 (by omega) hlast hend hf)
    rw [this]; omega
  have hp := hb.piece
  rw [show q + (e - q) = e by omega, show b + (q - a) + (e - q) = b + (e - a) by omega] at hp
  unfold intF allDg at h ⊢
  rw [hrt, ← hp]
  rw [hre] at h
  by_cases h1 : (sub s q e).all (fun c => dgB c.toNat) = true
  · rw [if_pos h1] at h ⊢
    by_cases h2 : a < q
    · rw [if_pos h2] at h
      rw [if_pos (by omega)]
      by_cases h3 : decV (sub s q e) ≤ 9223372036854775808
      · rw [if_pos h3] at h ⊢
        simp only [TR.ok.injEq, Prod.mk.injEq, and_true] at h ⊢
        exact ⟨h.1, h.2.1, h.2.2.1, h.2.2.2⟩
      · rw [if_neg h3] at h; cases h
    · rw [if_neg h2] at h
      rw [if_neg (by omega)]
      by_cases h3 : decV (sub s q e) ≤ 9223372036854775807
      · rw [if_pos h3] at h ⊢
        simp only [TR.ok.injEq, Prod.mk.injEq, and_true] at h ⊢
        exact ⟨h.1, h.2.1, h.2.2.1, h.2.2.2⟩
      · rw [if_neg h3] at h; cases h
  · rw [if_neg h1] at h; cases h
theorem word_loc2 {s t : List UInt8} {a b : Nat} {c : Int} {v : List UInt8} {n p : Int} {e : Nat} (hw : wdB (bat s a) = true) (hal : a < s.length) (h : wordF s a = .ok (c, v, n, p, (a : Int), (e : Int))) (ha : Ag s t a b (e - a)) (hf : Fol2 s t a b (e - a)) :
    wordF t b = .ok (c, v, n, p, (b : Int), ((b + (e - a) : Nat) : Int)) := by
  have hr := run_word hal hw
  have hre : runF s a = e := by
    unfold wordF at h
    repeat' split at h
    all_goals first | (cases h; done) | (simp only [TR.ok.injEq, Prod.mk.injEq] at h; have := h.2.2.2.2.2; omega)
  rw [hre] at hr
  have hend : ¬ (a + (e - a) < s.length ∧ wdB (bat s (a + (e - a))) = true) := by
    rw [show a + (e - a) = e by omega, ← hre]; exact runF_end
  have hlast : wdB (bat t (b + (e - a) - 1)) = true := by
    have h1 := ha.2.2 (e - a - 1) (by omega)
    rw [show b + (e - a) - 1 = b + (e - a - 1) by omega, ← h1, show a + (e - a - 1) = e - 1 by omega]
    exact (runF_in (k := a) (by omega) (by omega)).2
  have hrt : runF t b = b + (e - a) := run_loc ha (by rw [hre]; omega) (fol_run2 (by omega) hlast hend hf)
  have hp := ha.piece
  rw [show a + (e - a) = e by omega] at hp
  have h0 : bat t b = bat s a := by have := ha.2.2 0 (by omega); simpa using this.symm
  unfold wordF at h ⊢
  rw [hrt, ← hp, h0]
  rw [hre] at h
  rw [show b + (e - a) - b = e - a by omega]
  repeat' split at h
  all_goals first | (cases h; done) | skip
  all_goals simp only [TR.ok.injEq, Prod.mk.injEq, and_true] at h
  · rename_i h1 h2
    rw [if_neg h1, if_pos h2]; simp [← h.1, ← h.2.1, ← h.2.2.1, ← h.2.2.2]
  · rename_i h1 h2 h3
    rw [if_neg h1, if_neg h2, if_pos h3]; simp [← h.1, ← h.2.1, ← h.2.2.1, ← h.2.2.2]
  · rename_i h1 h2 h3
    rw [if_neg h1, if_neg h2, if_neg h3]; simp [← h.1, ← h.2.1, ← h.2.2.1, ← h.2.2.2]
/-- A token hangs on its own bytes, and on what follows but little. -/
theorem tok_loc2 {s t : List UInt8} {a b : Nat} {c : Int} {v : List UInt8} {n p : Int} {e : Nat} (h : tokF s a = .ok (c, v, n, p, (a : Int), (e : Int))) (hc : c ≠ 0) (ha : Ag s t a b (e - a)) (hf : Fol2 s t a b (e - a)) :
    tokF t b = .ok (c, v, n, p, (b : Int), ((b + (e - a) : Nat) : Int)) := by
  have hal : a < s.length := by
    apply Decidable.byContradiction
    intro q
    unfold tokF at h
    rw [if_pos (by omega)] at h
    simp only [TR.ok.injEq, Prod.mk.injEq] at h
    exact hc h.1.symm
  have hae : a < e := by
    obtain ⟨c', v', n', p', e', h1, h2, h3, h4⟩ := tok_ok (by omega) h
    simp only [Prod.mk.injEq, true_and] at h1
    obtain ⟨rfl, -, -, -, he⟩ := h1
    have := h4 hc; omega
  have h0 : bat t b = bat s a := by have := ha.2.2 0 (by omega); simpa using this.symm
  have hbl : b < t.length := by have := ha.2.1; omega
  unfold tokF at h ⊢
  rw [if_neg (by omega)] at h ⊢
  rw [h0]
  by_cases hd : dgB (bat s a) = true
  · rw [if_pos hd] at h ⊢
    have := int_loc2 (.inl rfl) hal hd h ha hf
    rwa [show b + (a - a) = b by omega] at this
  rw [if_neg hd] at h ⊢
  by_cases hm : bat s a = 45 ∧ dgB (bat s (a + 1)) = true
  · rw [if_pos hm] at h
    have h1l : a + 1 < s.length := Nat.lt_of_not_le fun q => by have := hm.2; rw [bat_end q] at this; simp [dgB] at this
    have hr := run_word h1l (by unfold wdB; rw [hm.2]; rfl)
    have hre : runF s (a + 1) = e := by
      unfold intF at h
      repeat' split at h
      all_goals first | (cases h; done) | (simp only [TR.ok.injEq, Prod.mk.injEq] at h; have := h.2.2.2.2.2; omega)
    have h1 : bat t (b + 1) = bat s (a + 1) := (ha.2.2 1 (by omega)).symm
    rw [h1, if_pos hm]
    have := int_loc2 (.inr rfl) h1l hm.2 h ha hf
    rwa [show b + (a + 1 - a) = b + 1 by omega] at this
  rw [if_neg hm] at h
  have h45 : bat s a ≠ 45 := fun q => by
    rw [if_neg (by rw [q]; decide), if_neg (by omega), sign_45 q] at h; cases h
  rw [if_neg (fun q => h45 q.1)]
  by_cases hw : wdB (bat s a) = true
  · rw [if_pos hw] at h ⊢
    exact word_loc2 hw hal h ha hf
  rw [if_neg hw] at h ⊢
  by_cases h34 : bat s a = 34
  · rw [if_pos h34] at h ⊢
    obtain ⟨e', v', k1, k2, k3⟩ := txt_ok h
    simp only [Prod.mk.injEq, true_and] at k1
    obtain ⟨rfl, rfl, rfl, rfl, k4⟩ := k1
    have := txt_loc (p := b) (j := b + 1) h (by
      have := ha.sub (i := 1) (m := e - (a + 1)) (by omega)
      exact this)
    rw [this]
    congr 6
    omega
  · rw [if_neg h34] at h ⊢
    exact sign_loc2 hal h ha hf
end Edict
