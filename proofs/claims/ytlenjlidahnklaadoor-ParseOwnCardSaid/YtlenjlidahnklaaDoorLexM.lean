/- The plain law of tokens: what a token, a gap is hangs on its own bytes, and on what follows but little. No program in sight. -/
import Derived.Test.YtlenjlidahnklaaDoorLexE
namespace Edict
/-- n bytes of s from a on are those of t from b on. -/
def Ag (s t : List UInt8) (a b n : Nat) : Prop := a + n ≤ s.length ∧ b + n ≤ t.length ∧ ∀ i, i < n → bat s (a + i) = bat t (b + i)
theorem Ag.sub {s t : List UInt8} {a b n : Nat} (h : Ag s t a b n) {i m : Nat} (hm : i + m ≤ n) : Ag s t (a + i) (b + i) m :=
  ⟨by have := h.1; omega, by have := h.2.1; omega, fun j hj => by have := h.2.2 (i + j) (by omega); rwa [← Nat.add_assoc, ← Nat.add_assoc] at this⟩
theorem get_bat {s : List UInt8} {i : Nat} (h : i < s.length) : s[i]? = some (UInt8.ofNat (bat s i)) := by
  unfold bat
  rw [List.getD_eq_getElem?_getD, List.getElem?_eq_getElem h]
  simp
theorem Ag.piece {s t : List UInt8} {a b n : Nat} (h : Ag s t a b n) : Edict.sub s a (a + n) = Edict.sub t b (b + n) := by
  unfold Edict.sub
  apply List.ext_getElem?
  intro i
  rw [List.getElem?_drop, List.getElem?_drop, List.getElem?_take, List.getElem?_take]
  by_cases hi : i < n
  · rw [if_pos (by omega), if_pos (by omega), get_bat (by have := h.1; omega), get_bat (by have := h.2.1; omega), h.2.2 i hi]
  · rw [if_neg (by omega), if_neg (by omega)]
theorem runF_is {s : List UInt8} {k e : Nat} (hk : k ≤ e) (he : e ≤ s.length) (hin : ∀ i, k ≤ i → i < e → wdB (bat s i) = true) (hend : ¬ (e < s.length ∧ wdB (bat s e) = true)) : runF s k = e := by
  by_cases h : k = e
  · subst h; exact runF_stop hend
  · rw [runF_on (by omega) (hin k (Nat.le_refl _) (by omega))]
    exact runF_is (by omega) he (fun i h1 h2 => hin i (by omega) h2) hend
termination_by e - k
theorem run_loc {s t : List UInt8} {a b n : Nat} (h : Ag s t a b n) (hr : runF s a = a + n) (hend : ¬ (b + n < t.length ∧ wdB (bat t (b + n)) = true)) : runF t b = b + n := by
  refine runF_is (by omega) h.2.1 (fun i h1 h2 => ?_) hend
  have := h.2.2 (i - b) (by omega)
  rw [show b + (i - b) = i by omega] at this
  rw [← this]
  exact (runF_in (k := a) (by omega) (by omega)).2
/-- What may follow a token of n bytes at b of t, that stands at a of s. -/
def Fol (s t : List UInt8) (a b n : Nat) : Prop := b + n = t.length ∨ (wdB (bat t (b + n)) = false ∧ bat t (b + n) ≠ 61) ∨ (a + n < s.length ∧ b + n < t.length ∧ bat t (b + n) = bat s (a + n))
theorem fol_run {s t : List UInt8} {a b n : Nat} (hr : ¬ (a + n < s.length ∧ wdB (bat s (a + n)) = true)) (h : Fol s t a b n) : ¬ (b + n < t.length ∧ wdB (bat t (b + n)) = true) := by
  rintro ⟨h1, h2⟩
  rcases h with h | h | h
  · omega
  · rw [h.1] at h2; cases h2
  · exact hr ⟨h.1, by rw [← h.2.2]; exact h2⟩
theorem esc_loc {s t : List UInt8} {i j : Nat} (hn : (escF s i).2 ≠ 0) (h : ∀ k, k < (escF s i).2 → bat s (i + k) = bat t (j + k)) : escF t j = escF s i := by
  have hl := esc_len s i
  have h1 : bat t (j + 1) = bat s (i + 1) := (h 1 (by omega)).symm
  by_cases q : bat s (i + 1) = 120
  · have q1 : (escF s i).2 = 4 := by
      unfold escF at hn ⊢
      rw [if_neg (by omega), if_neg (by omega), if_neg (by omega), if_neg (by omega), if_neg (by omega), if_pos q] at hn ⊢
      split at hn <;> simp_all
    have h2 : bat t (j + 2) = bat s (i + 2) := (h 2 (by omega)).symm
    have h3 : bat t (j + 3) = bat s (i + 3) := (h 3 (by omega)).symm
    unfold escF
    rw [h1, h2, h3]
  · unfold escF
    rw [h1]
    simp only [if_neg q]
theorem txt_loc {s t : List UInt8} {o p : Nat} {i j : Nat} {acc v : List UInt8} {e : Nat} (h : txtF s o i acc = .ok (4, v, 0, 0, (o : Int), (e : Int))) (ha : Ag s t i j (e - i)) : txtF t p j acc = .ok (4, v, 0, 0, (p : Int), ((j + (e - i) : Nat) : Int)) := by
  obtain ⟨e', v', h1, h2, h3⟩ := txt_ok h
  have he : e' = e := by
    simp only [Prod.mk.injEq, true_and] at h1
    have := h1.2; omega
  subst he
  have hil : i < s.length := by omega
  have hjl : j < t.length := by have := ha.2.1; omega
  have h0 : bat t j = bat s i := by have := ha.2.2 0 (by omega); simpa using this.symm
  by_cases h32 : 32 ≤ bat s i
  case neg => rw [txtF, if_neg (fun q => h32 q.2)] at h; cases h
  by_cases h34 : bat s i = 34
  · rw [txtF, if_pos ⟨hil, h32⟩, if_pos h34] at h
    simp only [TR.ok.injEq, Prod.mk.injEq, true_and] at h
    obtain ⟨rfl, h⟩ := h
    have : e' = i + 1 := by omega
    subst this
    rw [txtF, if_pos ⟨hjl, by omega⟩, if_pos (by omega)]
    rw [show i + 1 - i = 1 by omega]
  by_cases h92 : bat s i = 92
  · rw [txtF, if_pos ⟨hil, h32⟩, if_neg h34, if_pos h92] at h
    split at h
    · cases h
    rename_i hn0
    split at h
    · cases h
    rename_i hl
    obtain ⟨e2, v2, k1, k2, k3⟩ := txt_ok h
    have he2 : e2 = e' := by
      simp only [Prod.mk.injEq, true_and] at k1
      have := k1.2; omega
    subst he2
    have hesc := esc_loc (t := t) (j := j) hn0 (fun k hk => ha.2.2 k (by omega))
    have ih := txt_loc (p := p) (j := j + (escF s i).2) h (by
      have := ha.sub (i := (escF s i).2) (m := e2 - (i + (escF s i).2)) (by omega)
      exact this)
    rw [txtF, if_pos ⟨hjl, by omega⟩, if_neg (by omega), if_pos (by omega), hesc, if_neg hn0, if_neg hl, ih]
    congr 6
    omega
  · rw [txtF, if_pos ⟨hil, h32⟩, if_neg h34, if_neg h92] at h
    split at h
    · cases h
    rename_i hl
    obtain ⟨e2, v2, k1, k2, k3⟩ := txt_ok h
    have he2 : e2 = e' := by
      simp only [Prod.mk.injEq, true_and] at k1
      have := k1.2; omega
    subst he2
    have ih := txt_loc (p := p) (j := j + 1) h (by
      have := ha.sub (i := 1) (m := e2 - (i + 1)) (by omega)
      exact this)
    rw [txtF, if_pos ⟨hjl, by omega⟩, if_neg (by omega), if_neg (by omega), if_neg hl, h0, ih]
    congr 6
    omega
termination_by s.length - i
decreasing_by all_goals first | omega | (have := esc_len s i; omega)
theorem pr_eq {s : List UInt8} {o a b : Nat} : pr s o a b = (decide (o + 1 < s.length) && decide (bat s o = a) && decide (bat s (o + 1) = b)) := by
  unfold pr
  cases h1 : bat s o == a <;> cases h2 : bat s (o + 1) == b <;> simp_all
theorem pr_loc2 {s t : List UInt8} {a b : Nat} (h : Ag s t a b 2) (x y : Nat) : pr t b x y = pr s a x y := by
  have h0 := h.2.2 0 (by omega)
  have h1 := h.2.2 1 (by omega)
  have l1 := h.1; have l2 := h.2.1
  rw [pr_eq, pr_eq]
  simp only [Nat.add_zero] at h0
  rw [h0, h1, decide_eq_true (show b + 1 < t.length by omega), decide_eq_true (show a + 1 < s.length by omega)]
theorem sign_loc {s t : List UInt8} {a b : Nat} {c p : Int} {e : Nat} {v : List UInt8} {n : Int} (ho : a < s.length) (h : signF s a = .ok (c, v, n, p, (a : Int), (e : Int))) (ha : Ag s t a b (e - a)) (hf : Fol s t a b (e - a)) :
    signF t b = .ok (c, v, n, p, (b : Int), ((b + (e - a) : Nat) : Int)) := by
  have hae : a < e := by
    obtain ⟨c', p', e', h1, h2, h3, h4⟩ := sign_ok ho h
    simp only [Prod.mk.injEq, true_and] at h1
    have := h1.2.2.2.2; omega
  have two : ∀ k op, signF s a = sgn k op a 2 → (∀ x y, pr t b x y = pr s a x y → True) → e = a + 2 ∧ c = k ∧ p = op ∧ v = [] ∧ n = 0 := by
    intro k op h1 _
    rw [h1] at h
    simp only [sgn, TR.ok.injEq, Prod.mk.injEq, true_and] at h
    exact ⟨by have := h.2.2.2.2; omega, h.1.symm, h.2.2.2.1.symm, h.2.1.symm, h.2.2.1.symm⟩
  have one : ∀ k op, signF s a = sgn k op a 1 → e = a + 1 ∧ c = k ∧ p = op ∧ v = [] ∧ n = 0 := by
    intro k op h1
    rw [h1] at h
    simp only [sgn, TR.ok.injEq, Prod.mk.injEq, true_and] at h
    exact ⟨by have := h.2.2.2.2; omega, h.1.symm, h.2.2.2.1.symm, h.2.1.symm, h.2.2.1.symm⟩
  have h0 : bat t b = bat s a := by have := ha.2.2 0 (by omega); simpa using this.symm
  by_cases q0 : pr s a 58 45 = true
  · have hs : signF s a = sgn 9 0 a 2 := by unfold signF; rw [if_pos q0]
    obtain ⟨rfl, rfl, rfl, rfl, rfl⟩ := two _ _ hs (fun _ _ _ => trivial)
    rw [show a + 2 - a = 2 by omega] at ha ⊢
    unfold signF
    simp only [pr_loc2 ha]
    rw [if_pos q0]; rfl
  by_cases q1 : pr s a 33 61 = true
  · have hs : signF s a = sgn 11 2 a 2 := by unfold signF; rw [if_neg q0]; rw [if_pos q1]
    obtain ⟨rfl, rfl, rfl, rfl, rfl⟩ := two _ _ hs (fun _ _ _ => trivial)
    rw [show a + 2 - a = 2 by omega] at ha ⊢
    unfold signF
    simp only [pr_loc2 ha]
    rw [if_neg q0]; rw [if_pos q1]; rfl
  by_cases q2 : pr s a 60 61 = true
  · have hs : signF s a = sgn 11 4 a 2 := by unfold signF; rw [if_neg q0]; rw [if_neg q1]; rw [if_pos q2]
    obtain ⟨rfl, rfl, rfl, rfl, rfl⟩ := two _ _ hs (fun _ _ _ => trivial)
    rw [show a + 2 - a = 2 by omega] at ha ⊢
    unfold signF
    simp only [pr_loc2 ha]
    rw [if_neg q0]; rw [if_neg q1]; rw [if_pos q2]; rfl
  by_cases q3 : pr s a 62 61 = true
  · have hs : signF s a = sgn 11 6 a 2 := by unfold signF; rw [if_neg q0]; rw [if_neg q1]; rw [if_neg q2]; rw [if_pos q3]
    obtain ⟨rfl, rfl, rfl, rfl, rfl⟩ := two _ _ hs (fun _ _ _ => trivial)
    rw [show a + 2 - a = 2 by omega] at ha ⊢
    unfold signF
    simp only [pr_loc2 ha]
    rw [if_neg q0]; rw [if_neg q1]; rw [if_neg q2]; rw [if_pos q3]; rfl
  -- one byte
  have np : ∀ x y, ¬ pr s a x y = true → (y = 61 ∨ bat s a ≠ x) → e = a + 1 → ¬ pr t b x y = true := by
    intro x y hq hy he hp
    subst he
    rw [show a + 1 - a = 1 by omega] at ha hf
    rw [pr_eq] at hp
    simp only [Bool.and_eq_true, decide_eq_true_eq] at hp
    rcases hy with rfl | hy
    · rcases hf with hf | hf | hf
      · omega
      · exact hf.2 hp.2
      · refine hq ?_
        rw [pr_eq]
        simp only [Bool.and_eq_true, decide_eq_true_eq]
        exact ⟨⟨hf.1, by rw [← h0]; exact hp.1.2⟩, by rw [← hf.2.2]; exact hp.2⟩
    · exact hy (by rw [← h0]; exact hp.1.2)
  by_cases r0 : bat s a = 60
  · have hs : signF s a = sgn 11 3 a 1 := by unfold signF; rw [if_neg q0]; rw [if_neg q1]; rw [if_neg q2]; rw [if_neg q3]; rw [if_pos r0]
    obtain ⟨rfl, rfl, rfl, rfl, rfl⟩ := one _ _ hs
    have n0 := np 58 45 q0 (.inr (by omega)) rfl
    have n1 := np 33 61 q1 (.inl rfl) rfl
    have n2 := np 60 61 q2 (.inl rfl) rfl
    have n3 := np 62 61 q3 (.inl rfl) rfl
    rw [show a + 1 - a = 1 by omega]
    unfold signF
    rw [if_neg n0, if_neg n1, if_neg n2, if_neg n3, h0]
    rw [if_pos r0]; rfl
  by_cases r1 : bat s a = 62
  · have hs : signF s a = sgn 11 5 a 1 := by unfold signF; rw [if_neg q0]; rw [if_neg q1]; rw [if_neg q2]; rw [if_neg q3]; rw [if_neg r0]; rw [if_pos r1]
    obtain ⟨rfl, rfl, rfl, rfl, rfl⟩ := one _ _ hs
    have n0 := np 58 45 q0 (.inr (by omega)) rfl
    have n1 := np 33 61 q1 (.inl rfl) rfl
    have n2 := np 60 61 q2 (.inl rfl) rfl
    have n3 := np 62 61 q3 (.inl rfl) rfl
    rw [show a + 1 - a = 1 by omega]
    unfold signF
    rw [if_neg n0, if_neg n1, if_neg n2, if_neg n3, h0]
    rw [if_neg r0]; rw [if_pos r1]; rfl
  by_cases r2 : bat s a = 61
  · have hs : signF s a = sgn 11 1 a 1 := by unfold signF; rw [if_neg q0]; rw [if_neg q1]; rw [if_neg q2]; rw [if_neg q3]; rw [if_neg r0]; rw [if_neg r1]; rw [if_pos r2]
    obtain ⟨rfl, rfl, rfl, rfl, rfl⟩ := one _ _ hs
    have n0 := np 58 45 q0 (.inr (by omega)) rfl
    have n1 := np 33 61 q1 (.inl rfl) rfl
    have n2 := np 60 61 q2 (.inl rfl) rfl
    have n3 := np 62 61 q3 (.inl rfl) rfl
    rw [show a + 1 - a = 1 by omega]
    unfold signF
    rw [if_neg n0, if_neg n1, if_neg n2, if_neg n3, h0]
    rw [if_neg r0]; rw [if_neg r1]; rw [if_pos r2]; rfl
  by_cases r3 : bat s a = 40
  · have hs : signF s a = sgn 5 0 a 1 := by unfold signF; rw [if_neg q0]; rw [if_neg q1]; rw [if_neg q2]; rw [if_neg q3]; rw [if_neg r0]; rw [if_neg r1]; rw [if_neg r2]; rw [if_pos r3]
    obtain ⟨rfl, rfl, rfl, rfl, rfl⟩ := one _ _ hs
    have n0 := np 58 45 q0 (.inr (by omega)) rfl
    have n1 := np 33 61 q1 (.inl rfl) rfl
    have n2 := np 60 61 q2 (.inl rfl) rfl
    have n3 := np 62 61 q3 (.inl rfl) rfl
    rw [show a + 1 - a = 1 by omega]
    unfold signF
    rw [if_neg n0, if_neg n1, if_neg n2, if_neg n3, h0]
    rw [if_neg r0]; rw [if_neg r1]; rw [if_neg r2]; rw [if_pos r3]; rfl
  by_cases r4 : bat s a = 41
  · have hs : signF s a = sgn 6 0 a 1 := by unfold signF; rw [if_neg q0]; rw [if_neg q1]; rw [if_neg q2]; rw [if_neg q3]; rw [if_neg r0]; rw [if_neg r1]; rw [if_neg r2]; rw [if_neg r3]; rw [if_pos r4]
    obtain ⟨rfl, rfl, rfl, rfl, rfl⟩ := one _ _ hs
    have n0 := np 58 45 q0 (.inr (by omega)) rfl
    have n1 := np 33 61 q1 (.inl rfl) rfl
    have n2 := np 60 61 q2 (.inl rfl) rfl
    have n3 := np 62 61 q3 (.inl rfl) rfl
    rw [show a + 1 - a = 1 by omega]
    unfold signF
    rw [if_neg n0, if_neg n1, if_neg n2, if_neg n3, h0]
    rw [if_neg r0]; rw [if_neg r1]; rw [if_neg r2]; rw [if_neg r3]; rw [if_pos r4]; rfl
  by_cases r5 : bat s a = 44
  · have hs : signF s a = sgn 7 0 a 1 := by unfold signF; rw [if_neg q0]; rw [if_neg q1]; rw [if_neg q2]; rw [if_neg q3]; rw [if_neg r0]; rw [if_neg r1]; rw [if_neg r2]; rw [if_neg r3]; rw [if_neg r4]; rw [if_pos r5]
    obtain ⟨rfl, rfl, rfl, rfl, rfl⟩ := one _ _ hs
    have n0 := np 58 45 q0 (.inr (by omega)) rfl
    have n1 := np 33 61 q1 (.inl rfl) rfl
    have n2 := np 60 61 q2 (.inl rfl) rfl
    have n3 := np 62 61 q3 (.inl rfl) rfl
    rw [show a + 1 - a = 1 by omega]
    unfold signF
    rw [if_neg n0, if_neg n1, if_neg n2, if_neg n3, h0]
    rw [if_neg r0]; rw [if_neg r1]; rw [if_neg r2]; rw [if_neg r3]; rw [if_neg r4]; rw [if_pos r5]; rfl
  by_cases r6 : bat s a = 46
  · have hs : signF s a = sgn 8 0 a 1 := by unfold signF; rw [if_neg q0]; rw [if_neg q1]; rw [if_neg q2]; rw [if_neg q3]; rw [if_neg r0]; rw [if_neg r1]; rw [if_neg r2]; rw [if_neg r3]; rw [if_neg r4]; rw [if_neg r5]; rw [if_pos r6]
    obtain ⟨rfl, rfl, rfl, rfl, rfl⟩ := one _ _ hs
    have n0 := np 58 45 q0 (.inr (by omega)) rfl
    have n1 := np 33 61 q1 (.inl rfl) rfl
    have n2 := np 60 61 q2 (.inl rfl) rfl
    have n3 := np 62 61 q3 (.inl rfl) rfl
    rw [show a + 1 - a = 1 by omega]
    unfold signF
    rw [if_neg n0, if_neg n1, if_neg n2, if_neg n3, h0]
    rw [if_neg r0]; rw [if_neg r1]; rw [if_neg r2]; rw [if_neg r3]; rw [if_neg r4]; rw [if_neg r5]; rw [if_pos r6]; rfl
  have hs : signF s a = .bad 10 a := by unfold signF; rw [if_neg q0]; rw [if_neg q1]; rw [if_neg q2]; rw [if_neg q3]; rw [if_neg r0]; rw [if_neg r1]; rw [if_neg r2]; rw [if_neg r3]; rw [if_neg r4]; rw [if_neg r5]; rw [if_neg r6]
  rw [hs] at h; cases h
theorem sign_45 {s : List UInt8} {o : Nat} (h : bat s o = 45) : signF s o = .bad 10 o := by
  have np : ∀ x y, x ≠ 45 → ¬ pr s o x y = true := fun x y hx hp => by
    rw [pr_eq] at hp
    simp only [Bool.and_eq_true, decide_eq_true_eq] at hp
    omega
  unfold signF
  rw [if_neg (np _ _ (by decide)), if_neg (np _ _ (by decide)), if_neg (np _ _ (by decide)), if_neg (np _ _ (by decide)), if_neg (by omega), if_neg (by omega), if_neg (by omega), if_neg (by omega), if_neg (by omega), if_neg (by omega), if_neg (by omega)]
theorem int_loc {s t : List UInt8} {a b q : Nat} {c : Int} {v : List UInt8} {n p : Int} {e : Nat} (hq : q = a ∨ q = a + 1) (hql : q < s.length) (hqd : dgB (bat s q) = true) (h : intF s a q = .ok (c, v, n, p, (a : Int), (e : Int))) (ha : Ag s t a b (e - a)) (hf : Fol s t a b (e - a)) :
    intF t b (b + (q - a)) = .ok (c, v, n, p, (b : Int), ((b + (e - a) : Nat) : Int)) := by
  have hr := run_word hql (by unfold wdB; rw [hqd]; rfl)
  have hre : runF s q = e := by
    unfold intF at h
    repeat' split at h
    all_goals first | (cases h; done) | (simp only [TR.ok.injEq, Prod.mk.injEq] at h; have := h.2.2.2.2.2; omega)
  rw [hre] at hr
  have hend : ¬ (a + (e - a) < s.length ∧ wdB (bat s (a + (e - a))) = true) := by
    rw [show a + (e - a) = e by omega, ← hre]; exact runF_end
  have hb := ha.sub (i := q - a) (m := e - q) (by omega)
  rw [show a + (q - a) = q by omega] at hb
  have hrt : runF t (b + (q - a)) = b + (e - a) := by
    have := run_loc hb (by rw [hre]; omega) (by rw [show b + (q - a) + (e - q) = b + (e - a) by omega]; exact fol_run hend hf)
    rw [this]; omega
  have hp := hb.piece
  rw [show q + (e - q) = e by omega, show b + (q - a) + (e - q) = b + (e - a) by omega] at hp
  unfold intF allDg at h ⊢
  rw [hrt, ← hp]
  rw [hre] at h
  by_cases h1 : (sub s q e).all (fun c => dgB c.toNat) = true
  · rw [if_pos h1] at h ⊢
    by_cases h2 : a < q
    · rw [if_pos h2] at h
      rw [if_pos (by omega)]
      by_cases h3 : decV (sub s q e) ≤ 9223372036854775808
      · rw [if_pos h3] at h ⊢
        simp only [TR.ok.injEq, Prod.mk.injEq, and_true] at h ⊢
        exact ⟨h.1, h.2.1, h.2.2.1, h.2.2.2⟩
      · rw [if_neg h3] at h; cases h
    · rw [if_neg h2] at h
      rw [if_neg (by omega)]
      by_cases h3 : decV (sub s q e) ≤ 9223372036854775807
      · rw [if_pos h3] at h ⊢
        simp only [TR.ok.injEq, Prod.mk.injEq, and_true] at h ⊢
        exact ⟨h.1, h.2.1, h.2.2.1, h.2.2.2⟩
      · rw [if_neg h3] at h; cases h
  · rw [if_neg h1] at h; cases h
theorem word_loc {s t : List UInt8} {a b : Nat} {c : Int} {v : List UInt8} {n p : Int} {e : Nat} (hw : wdB (bat s a) = true) (hal : a < s.length) (h : wordF s a = .ok (c, v, n, p, (a : Int), (e : Int))) (ha : Ag s t a b (e - a)) (hf : Fol s t a b (e - a)) :
    wordF t b = .ok (c, v, n, p, (b : Int), ((b + (e - a) : Nat) : Int)) := by
  have hr := run_word hal hw
  have hre : runF s a = e := by
    unfold wordF at h
    repeat' split at h
    all_goals first | (cases h; done) | (simp only [TR.ok.injEq, Prod.mk.injEq] at h; have := h.2.2.2.2.2; omega)
  rw [hre] at hr
  have hend : ¬ (a + (e - a) < s.length ∧ wdB (bat s (a + (e - a))) = true) := by
    rw [show a + (e - a) = e by omega, ← hre]; exact runF_end
  have hrt : runF t b = b + (e - a) := run_loc ha (by rw [hre]; omega) (fol_run hend hf)
  have hp := ha.piece
  rw [show a + (e - a) = e by omega] at hp
  have h0 : bat t b = bat s a := by have := ha.2.2 0 (by omega); simpa using this.symm
  unfold wordF at h ⊢
  rw [hrt, ← hp, h0]
  rw [hre] at h
  rw [show b + (e - a) - b = e - a by omega]
  repeat' split at h
  all_goals first | (cases h; done) | skip
  all_goals simp only [TR.ok.injEq, Prod.mk.injEq, and_true] at h
  · rename_i h1 h2
    rw [if_neg h1, if_pos h2]; simp [← h.1, ← h.2.1, ← h.2.2.1, ← h.2.2.2]
  · rename_i h1 h2 h3
    rw [if_neg h1, if_neg h2, if_pos h3]; simp [← h.1, ← h.2.1, ← h.2.2.1, ← h.2.2.2]
  · rename_i h1 h2 h3
    rw [if_neg h1, if_neg h2, if_neg h3]; simp [← h.1, ← h.2.1, ← h.2.2.1, ← h.2.2.2]
/-- A token hangs on its own bytes, and on what follows but little. -/
theorem tok_loc {s t : List UInt8} {a b : Nat} {c : Int} {v : List UInt8} {n p : Int} {e : Nat} (h : tokF s a = .ok (c, v, n, p, (a : Int), (e : Int))) (hc : c ≠ 0) (ha : Ag s t a b (e - a)) (hf : Fol s t a b (e - a)) :
    tokF t b = .ok (c, v, n, p, (b : Int), ((b + (e - a) : Nat) : Int)) := by
  have hal : a < s.length := by
    apply Decidable.byContradiction
    intro q
    unfold tokF at h
    rw [if_pos (by omega)] at h
    simp only [TR.ok.injEq, Prod.mk.injEq] at h
    exact hc h.1.symm
  have hae : a < e := by
    obtain ⟨c', v', n', p', e', h1, h2, h3, h4⟩ := tok_ok (by omega) h
    simp only [Prod.mk.injEq, true_and] at h1
    obtain ⟨rfl, -, -, -, he⟩ := h1
    have := h4 hc; omega
  have h0 : bat t b = bat s a := by have := ha.2.2 0 (by omega); simpa using this.symm
  have hbl : b < t.length := by have := ha.2.1; omega
  unfold tokF at h ⊢
  rw [if_neg (by omega)] at h ⊢
  rw [h0]
  by_cases hd : dgB (bat s a) = true
  · rw [if_pos hd] at h ⊢
    have := int_loc (.inl rfl) hal hd h ha hf
    rwa [show b + (a - a) = b by omega] at this
  rw [if_neg hd] at h ⊢
  by_cases hm : bat s a = 45 ∧ dgB (bat s (a + 1)) = true
  · rw [if_pos hm] at h
    have h1l : a + 1 < s.length := Nat.lt_of_not_le fun q => by have := hm.2; rw [bat_end q] at this; simp [dgB] at this
    have hr := run_word h1l (by unfold wdB; rw [hm.2]; rfl)
    have hre : runF s (a + 1) = e := by
      unfold intF at h
      repeat' split at h
      all_goals first | (cases h; done) | (simp only [TR.ok.injEq, Prod.mk.injEq] at h; have := h.2.2.2.2.2; omega)
    have h1 : bat t (b + 1) = bat s (a + 1) := (ha.2.2 1 (by omega)).symm
    rw [h1, if_pos hm]
    have := int_loc (.inr rfl) h1l hm.2 h ha hf
    rwa [show b + (a + 1 - a) = b + 1 by omega] at this
  rw [if_neg hm] at h
  have h45 : bat s a ≠ 45 := fun q => by
    rw [if_neg (by rw [q]; decide), if_neg (by omega), sign_45 q] at h; cases h
  rw [if_neg (fun q => h45 q.1)]
  by_cases hw : wdB (bat s a) = true
  · rw [if_pos hw] at h ⊢
    exact word_loc hw hal h ha hf
  rw [if_neg hw] at h ⊢
  by_cases h34 : bat s a = 34
  · rw [if_pos h34] at h ⊢
    obtain ⟨e', v', k1, k2, k3⟩ := txt_ok h
    simp only [Prod.mk.injEq, true_and] at k1
    obtain ⟨rfl, rfl, rfl, rfl, k4⟩ := k1
    have := txt_loc (p := b) (j := b + 1) h (by
      have := ha.sub (i := 1) (m := e - (a + 1)) (by omega)
      exact this)
    rw [this]
    congr 6
    omega
  · rw [if_neg h34] at h ⊢
    exact sign_loc hal h ha hf
theorem tok_first {s : List UInt8} {o : Nat} {t : Tok} (ho : o < s.length) (h : tokF s o = .ok t) : isBl (bat s o) = false ∧ bat s o ≠ 37 ∧ bat s o ≠ 47 := by
  by_cases hb : isBl (bat s o) = false ∧ bat s o ≠ 37 ∧ bat s o ≠ 47
  · exact hb
  · exfalso
    have hcs : bat s o = 32 ∨ bat s o = 9 ∨ bat s o = 10 ∨ bat s o = 13 ∨ bat s o = 37 ∨ bat s o = 47 := by
      unfold isBl at hb
      simp only [Bool.or_eq_false_iff, beq_eq_false_iff_ne, ne_eq, not_and, Decidable.not_not] at hb
      omega
    have hd : dgB (bat s o) = false := by unfold dgB; rcases hcs with q | q | q | q | q | q <;> rw [q] <;> decide
    have hw : wdB (bat s o) = false := by rcases hcs with q | q | q | q | q | q <;> rw [q] <;> decide
    have hs : signF s o = .bad 10 o := by
      have np : ∀ x y, (x = 58 ∨ x = 33 ∨ x = 60 ∨ x = 62) → ¬ pr s o x y = true := fun x y hx hp => by
        rw [pr_eq] at hp
        simp only [Bool.and_eq_true, decide_eq_true_eq] at hp
        omega
      unfold signF
      rw [if_neg (np _ _ (by decide)), if_neg (np _ _ (by decide)), if_neg (np _ _ (by decide)), if_neg (np _ _ (by decide)), if_neg (by omega), if_neg (by omega), if_neg (by omega), if_neg (by omega), if_neg (by omega), if_neg (by omega), if_neg (by omega)]
    unfold tokF at h
    rw [if_neg (by omega), if_neg (by rw [hd]; simp), if_neg (fun q => by omega), if_neg (by rw [hw]; simp), if_neg (by omega), hs] at h
    cases h
theorem gap_at {s : List UInt8} {o : Nat} (h : isBl (bat s o) = false ∧ bat s o ≠ 37 ∧ bat s o ≠ 47) : gapF s o = (o, true) :=
  gap_else h.1 h.2.1 (by
    cases q : pr s o 47 42 with
    | false => rfl
    | true =>
      rw [pr_eq] at q
      simp only [Bool.and_eq_true, decide_eq_true_eq] at q
      exact absurd q.1.2 h.2.2)
theorem lineE_stops {s : List UInt8} {k : Nat} (h : k ≤ s.length) : lineE s k = s.length ∨ bat s (lineE s k) = 10 ∧ lineE s k < s.length := by
  by_cases q : k < s.length ∧ bat s k ≠ 10
  · rw [lineE_step q.1 q.2]; exact lineE_stops (by omega)
  · rw [lineE_stop q]; omega
termination_by s.length - k
theorem lineE_in {s : List UInt8} {k i : Nat} (h1 : k ≤ i) (h2 : i < lineE s k) : bat s i ≠ 10 := by
  by_cases q : k < s.length ∧ bat s k ≠ 10
  · by_cases e : i = k
    · subst e; exact q.2
    · rw [lineE_step q.1 q.2] at h2; exact lineE_in (k := k + 1) (by omega) h2
  · rw [lineE_stop q] at h2; omega
termination_by s.length - k
theorem lineE_is {s : List UInt8} {k e : Nat} (hk : k ≤ e) (he : e ≤ s.length) (hin : ∀ i, k ≤ i → i < e → bat s i ≠ 10) (hend : e = s.length ∨ bat s e = 10) : lineE s k = e := by
  by_cases h : k = e
  · subst h; exact lineE_stop (by omega)
  · rw [lineE_step (by omega) (hin k (Nat.le_refl _) (by omega))]
    exact lineE_is (by omega) he (fun i h1 h2 => hin i (by omega) h2) hend
termination_by e - k
theorem blk_loc {s t : List UInt8} {d k k2 x : Nat} (h : blk s d k = some x) (ha : Ag s t k k2 (x - k)) : blk t d k2 = some (k2 + (x - k)) := by
  have hg := blk_gt s d k x h
  by_cases hk : k < s.length
  case neg => rw [blk_end (by omega)] at h; cases h
  by_cases hx1 : x = k + 1
  · -- too short: a comment's end has two bytes
    exfalso
    by_cases p1 : pr s k 47 42 = true
    · rw [blk_up p1] at h; have := blk_gt s _ _ _ h; omega
    · have p1' : pr s k 47 42 = false := by simpa using p1
      by_cases p2 : pr s k 42 47 = true
      · rw [blk_down p1' p2] at h
        split at h
        · cases h; omega
        · have := blk_gt s _ _ _ h; omega
      · have p2' : pr s k 42 47 = false := by simpa using p2
        rw [blk_on hk p1' p2'] at h; have := blk_gt s _ _ _ h; omega
  have h2 : Ag s t k k2 2 := by have := ha.sub (i := 0) (m := 2) (by omega); simpa using this
  by_cases p1 : pr s k 47 42 = true
  · rw [blk_up p1] at h
    have hg2 := blk_gt s _ _ _ h
    rw [blk_up (by rw [pr_loc2 h2]; exact p1), blk_loc (k2 := k2 + 2) h (by have := ha.sub (i := 2) (m := x - (k + 2)) (by omega); exact this)]
    congr 1; omega
  · have p1' : pr s k 47 42 = false := by simpa using p1
    have t1 : pr t k2 47 42 = false := by rw [pr_loc2 h2]; exact p1'
    by_cases p2 : pr s k 42 47 = true
    · have t2 : pr t k2 42 47 = true := by rw [pr_loc2 h2]; exact p2
      rw [blk_down p1' p2] at h
      rw [blk_down t1 t2]
      by_cases hd : d ≤ 1
      · rw [if_pos hd] at h ⊢
        cases h
        rw [show k + 2 - k = 2 by omega]
      · rw [if_neg hd] at h ⊢
        have hg2 := blk_gt s _ _ _ h
        rw [blk_loc (k2 := k2 + 2) h (by have := ha.sub (i := 2) (m := x - (k + 2)) (by omega); exact this)]
        congr 1; omega
    · have p2' : pr s k 42 47 = false := by simpa using p2
      rw [blk_on hk p1' p2'] at h
      have hg2 := blk_gt s _ _ _ h
      rw [blk_on (by have := ha.2.1; omega) t1 (by rw [pr_loc2 h2]; exact p2'), blk_loc (k2 := k2 + 1) h (by have := ha.sub (i := 1) (m := x - (k + 1)) (by omega); exact this)]
      congr 1; omega
termination_by s.length - k
/-- A gap's bytes in another text: there too they are a gap's begin. -/
theorem gap_skip {s t : List UInt8} {a b j : Nat} {f : Bool} (h : gapF s a = (j, f)) (hal : a ≤ s.length) (ha : Ag s t a b (j - a)) (hc : j < s.length ∨ b + (j - a) = t.length ∨ bat t (b + (j - a)) = 10) : gapF t b = gapF t (b + (j - a)) := by
  have hge : a ≤ j := by have := gap_ge (s := s) (k := a); rw [h] at this; exact this
  have hle : j ≤ s.length := by have := gap_le (s := s) (k := a) hal; rw [h] at this; exact this
  by_cases hj : a = j
  · subst hj; rw [Nat.sub_self]; rfl
  have has : a < s.length := by omega
  have h0 : bat t b = bat s a := by have := ha.2.2 0 (by omega); simpa using this.symm
  have hbl : b < t.length := by have := ha.2.1; omega
  by_cases hb : isBl (bat s a) = true
  · rw [gap_bl has hb] at h
    rw [gap_bl hbl (by rw [h0]; exact hb)]
    have := gap_skip (b := b + 1) h (by omega) (by have := ha.sub (i := 1) (m := j - (a + 1)) (by omega); exact this) (by rw [show b + 1 + (j - (a + 1)) = b + (j - a) by omega]; exact hc)
    rw [this]; congr 1; omega
  have hb' : isBl (bat s a) = false := by simpa using hb
  by_cases h37 : bat s a = 37
  · rw [gap_line has h37] at h
    rw [gap_line hbl (by omega)]
    have g1 := lineE_ge s (a + 1)
    have g2 := lineE_le s (a + 1) (by omega)
    obtain ⟨l, hl⟩ : ∃ l, l = lineE s (a + 1) := ⟨_, rfl⟩
    rw [← hl] at h g1 g2
    have hlj : l ≤ j := by have := gap_ge (s := s) (k := l); rw [h] at this; exact this
    have hst := lineE_stops (s := s) (k := a + 1) (by omega)
    rw [← hl] at hst
    have hlt : lineE t (b + 1) = b + (l - a) := by
      refine lineE_is (by omega) (by have := ha.2.1; omega) (fun i i1 i2 => ?_) ?_
      · have := ha.2.2 (i - b) (by omega)
        rw [show b + (i - b) = i by omega] at this
        rw [← this]
        exact lineE_in (k := a + 1) (by omega) (by rw [← hl]; omega)
      · rcases hst with hst | ⟨hst, hst2⟩
        · have : j = l := by omega
          subst this
          rcases hc with q | q | q
          · omega
          · exact .inl q
          · exact .inr q
        · have hlj2 : l ≠ j := fun e => by
            subst e
            rw [gap_bl hst2 (by unfold isBl; rw [hst]; rfl)] at h
            have := gap_ge (s := s) (k := l + 1)
            rw [h] at this; simp at this; omega
          right
          have := ha.2.2 (l - a) (by omega)
          rw [show a + (l - a) = l by omega] at this
          rw [← this]; exact hst
    rw [hlt]
    have := gap_skip (b := b + (l - a)) h g2 (by have := ha.sub (i := l - a) (m := j - l) (by omega); rwa [show a + (l - a) = l by omega] at this) (by rw [show b + (l - a) + (j - l) = b + (j - a) by omega]; exact hc)
    rw [this]; congr 1; omega
  by_cases hp : pr s a 47 42 = true
  · cases hbk : blk s 1 (a + 2) with
    | none => rw [gap_none hp hbk] at h; cases h; exact absurd rfl hj
    | some x =>
      have hg := blk_gt s _ _ _ hbk
      rw [gap_some hp hbk] at h
      have hxj : x ≤ j := by have := gap_ge (s := s) (k := x); rw [h] at this; exact this
      have h2 : Ag s t a b 2 := by have := ha.sub (i := 0) (m := 2) (by omega); simpa using this
      have hbt := blk_loc (k2 := b + 2) hbk (by have := ha.sub (i := 2) (m := x - (a + 2)) (by omega); exact this)
      rw [gap_some (by rw [pr_loc2 h2]; exact hp) hbt]
      have := gap_skip (b := b + 2 + (x - (a + 2))) h hg.2 (by have := ha.sub (i := x - a) (m := j - x) (by omega); rwa [show a + (x - a) = x by omega, show b + (x - a) = b + 2 + (x - (a + 2)) by omega] at this) (by rw [show b + 2 + (x - (a + 2)) + (j - x) = b + (j - a) by omega]; exact hc)
      rw [this]; congr 1; omega
  · rw [gap_else hb' h37 (by simpa using hp)] at h
    cases h; exact absurd rfl hj
termination_by s.length - a
decreasing_by
  · omega
  · have := lineE_ge s (a + 1); omega
  · have := blk_gt s _ _ _ hbk; omega
end Edict
