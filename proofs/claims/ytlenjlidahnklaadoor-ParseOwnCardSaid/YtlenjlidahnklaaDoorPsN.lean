/- The shape of a scanned list: a fault and no end token; or the end token, last. -/
import Derived.Test.YtlenjlidahnklaaDoorLexM
namespace Edict
def endT (n : Nat) : Tok := (0, [], 0, 0, n, n)
/-- A sound list: the one end token is the last. -/
def Ended (l : List Tok) (n : Nat) : Prop := ∃ r, l = r ++ [endT n] ∧ ∀ t ∈ r, t.1 ≠ 0
theorem txt_bad {s : List UInt8} {o i : Nat} {acc : List UInt8} {c : Int} {p : Nat} (h : txtF s o i acc = .bad c p) : (c = 11 ∧ p = o) ∨ (c = 15 ∧ p = o) ∨ (c = 12 ∧ i ≤ p ∧ p < s.length) := by
  rw [txtF] at h
  split at h
  · rename_i q
    split at h
    · cases h
    · split at h
      · split at h
        · cases h; exact .inr (.inr ⟨rfl, Nat.le_refl _, q.1⟩)
        · split at h
          · cases h; exact .inr (.inl ⟨rfl, rfl⟩)
          · rename_i hn _
            rcases txt_bad h with k | k | k
            · exact .inl k
            · exact .inr (.inl k)
            · exact .inr (.inr ⟨k.1, by omega, k.2.2⟩)
      · split at h
        · cases h; exact .inr (.inl ⟨rfl, rfl⟩)
        · rcases txt_bad h with k | k | k
          · exact .inl k
          · exact .inr (.inl k)
          · exact .inr (.inr ⟨k.1, by omega, k.2.2⟩)
  · cases h; exact .inl ⟨rfl, rfl⟩
termination_by s.length - i
decreasing_by
  · have := esc_len s i; omega
  · omega
theorem ite_bad {q : Prop} [Decidable q] {k op : Int} {o n : Nat} {x : TR} {c : Int} {p : Nat} (h : (if q then sgn k op o n else x) = .bad c p) : x = .bad c p := by
  split at h
  · cases h
  · exact h
theorem sign_bad {s : List UInt8} {o : Nat} {c : Int} {p : Nat} (h : signF s o = .bad c p) : c = 10 ∧ p = o := by
  unfold signF at h
  iterate 11 (replace h := ite_bad h)
  cases h
  exact ⟨rfl, rfl⟩
theorem gap_false {s : List UInt8} {k p : Nat} (h : gapF s k = (p, false)) : p < s.length := by
  by_cases hk : k < s.length
  case neg => rw [gap_end (by omega)] at h; cases h
  by_cases hb : isBl (bat s k) = true
  · rw [gap_bl hk hb] at h; exact gap_false h
  by_cases h37 : bat s k = 37
  · rw [gap_line hk h37] at h; exact gap_false h
  by_cases hp : pr s k 47 42 = true
  · cases hbk : blk s 1 (k + 2) with
    | none => rw [gap_none hp hbk] at h; cases h; exact hk
    | some x => rw [gap_some hp hbk] at h; exact gap_false h
  · rw [gap_else (by simpa using hb) h37 (by simpa using hp)] at h; cases h
termination_by s.length - k
decreasing_by
  · omega
  · have := lineE_ge s (k + 1); omega
  · have := blk_gt s _ _ _ hbk; omega
theorem tok_bad {s : List UInt8} {o : Nat} {c : Int} {p : Nat} (h : tokF s o = .bad c p) : o < s.length ∧ c ≠ 0 ∧ c ≠ 16 ∧ c ≠ 1 ∧ (c ≠ 12 → p = o) ∧ (c = 12 → o < p ∧ p < s.length ∧ bat s o = 34 ∧ txtF s o (o + 1) [] = .bad 12 p) := by
  have ho : o < s.length := Nat.lt_of_not_le fun q => by rw [tokF, if_pos q] at h; cases h
  refine ⟨ho, ?_⟩
  rw [tokF, if_neg (by omega)] at h
  have hi : ∀ b, intF s o b = .bad c p → c = 13 ∧ p = o := fun b hb => by
    unfold intF at hb
    repeat' split at hb
    all_goals first | (cases hb; done) | (cases hb; exact ⟨rfl, rfl⟩)
  by_cases hd : dgB (bat s o) = true
  · rw [if_pos hd] at h; obtain ⟨rfl, rfl⟩ := hi _ h; exact ⟨by decide, by decide, by decide, fun _ => rfl, fun q => absurd q (by decide)⟩
  rw [if_neg hd] at h
  by_cases hm : bat s o = 45 ∧ dgB (bat s (o + 1)) = true
  · rw [if_pos hm] at h; obtain ⟨rfl, rfl⟩ := hi _ h; exact ⟨by decide, by decide, by decide, fun _ => rfl, fun q => absurd q (by decide)⟩
  rw [if_neg hm] at h
  by_cases hw : wdB (bat s o) = true
  · rw [if_pos hw] at h
    have : c = 14 ∧ p = o := by
      unfold wordF at h
      repeat' split at h
      all_goals first | (cases h; done) | (cases h; exact ⟨rfl, rfl⟩)
    obtain ⟨rfl, rfl⟩ := this
    exact ⟨by decide, by decide, by decide, fun _ => rfl, fun q => absurd q (by decide)⟩
  rw [if_neg hw] at h
  by_cases h34 : bat s o = 34
  · rw [if_pos h34] at h
    rcases txt_bad h with ⟨rfl, rfl⟩ | ⟨rfl, rfl⟩ | ⟨rfl, k1, k2⟩
    · exact ⟨by decide, by decide, by decide, fun _ => rfl, fun q => absurd q (by decide)⟩
    · exact ⟨by decide, by decide, by decide, fun _ => rfl, fun q => absurd q (by decide)⟩
    · exact ⟨by decide, by decide, by decide, fun q => absurd rfl q, fun _ => ⟨by omega, k2, h34, h⟩⟩
  rw [if_neg h34] at h
  have := sign_bad h
  obtain ⟨rfl, rfl⟩ := this
  exact ⟨by decide, by decide, by decide, fun _ => rfl, fun q => absurd q (by decide)⟩
/-- A fault: at the gap's end, or within a text, or where a comment begins. -/
theorem next_bad {s : List UInt8} {k : Nat} {c : Int} {p : Nat} (hk : k ≤ s.length) (h : nextF s k = .bad c p) : c ≠ 0 ∧ c ≠ 1 ∧ k ≤ p ∧ p < s.length ∧ (c = 16 → gapF s k = (p, false)) ∧ (c ≠ 16 → c ≠ 12 → gapF s k = (p, true)) ∧ (c = 12 → ∃ g, gapF s k = (g, true) ∧ g < p ∧ bat s g = 34 ∧ txtF s g (g + 1) [] = .bad 12 p) := by
  have hge := gap_ge (s := s) (k := k)
  have hle := gap_le hk
  unfold nextF at h
  cases hg : gapF s k with
  | mk g b =>
    rw [hg] at h hge hle
    simp only at h hge hle
    cases b with
    | true =>
      simp only [if_true] at h
      obtain ⟨h1, h2, h3, h4, h5, h6⟩ := tok_bad h
      by_cases hc : c = 12
      · obtain ⟨k1, k2, k3, k4⟩ := h6 hc
        exact ⟨h2, h4, by omega, k2, fun q => absurd q h3, fun _ q => absurd hc q, fun _ => ⟨g, rfl, k1, k3, k4⟩⟩
      · obtain rfl := h5 hc
        exact ⟨h2, h4, hge, h1, fun q => absurd q h3, fun _ _ => rfl, fun q => absurd q hc⟩
    | false =>
      simp only [Bool.false_eq_true, if_false] at h
      cases h
      refine ⟨by decide, by decide, hge, ?_, fun _ => rfl, fun q => absurd rfl q, fun q => absurd q (by decide)⟩
      apply Decidable.byContradiction
      intro q
      have e : p = s.length := by omega
      have := gap_false hg
      omega
theorem scan_nil {s : List UInt8} {k : Nat} {c : Int} {p : Nat} (h : scanK s k = ([], c, p)) : nextF s k = .bad c p := by
  unfold scanK scanN at h
  cases hx : nextF s k with
  | bad c' o' => rw [hx] at h; cases h; rfl
  | ok t => rw [hx] at h; simp only at h; split at h <;> cases h
theorem scan_cons {s : List UInt8} {k : Nat} {t : Tok} {l : List Tok} {f : Int × Nat} (hk : k ≤ s.length) (h : scanK s k = (t :: l, f)) : nextF s k = .ok t ∧ (t.1 = 0 ∧ l = [] ∧ f = (0, 0) ∨ t.1 ≠ 0 ∧ scanK s t.2.2.2.2.2.toNat = (l, f)) := by
  cases hx : nextF s k with
  | bad c o => rw [scanK_bad hx] at h; cases h
  | ok t' =>
    by_cases h0 : t'.1 = 0
    · rw [scanK_end hx h0] at h; cases h; exact ⟨rfl, .inl ⟨h0, rfl, rfl⟩⟩
    · rw [scanK_on hk hx h0] at h; cases h; exact ⟨rfl, .inr ⟨h0, rfl⟩⟩
/-- The list's one shape: a fault and no end token; or the end token, last. -/
theorem scan_shape {s : List UInt8} : ∀ {l : List Tok} {k : Nat} {c : Int} {p : Nat}, k ≤ s.length → scanK s k = (l, c, p) → (c ≠ 0 ∧ c ≠ 1 ∧ p < s.length ∧ ∀ t ∈ l, t.1 ≠ 0) ∨ (c = 0 ∧ p = 0 ∧ Ended l s.length)
  | [], k, c, p, hk, h => by
    obtain ⟨h1, h2, h3, h4, -⟩ := next_bad hk (scan_nil h)
    exact .inl ⟨h1, h2, h4, fun t ht => by cases ht⟩
  | t :: l, k, c, p, hk, h => by
    obtain ⟨h1, ⟨h2, rfl, h3⟩ | ⟨h2, h3⟩⟩ := scan_cons hk h
    · cases h3
      obtain ⟨c, v, n, p, o, e, rfl, q1, q2, q3, q4⟩ := next_ok hk h1
      obtain ⟨rfl, rfl, rfl, rfl, rfl⟩ := q3 h2
      simp only at h2
      subst h2
      exact .inr ⟨rfl, rfl, [], rfl, fun t ht => by cases ht⟩
    · obtain ⟨c', v, n, p', o, e, rfl, q1, q2, q3, q4⟩ := next_ok hk h1
      rcases scan_shape (k := e) q2 h3 with ⟨r1, r2, r3, r4⟩ | ⟨r1, r2, r, rfl, r4⟩
      · exact .inl ⟨r1, r2, r3, fun t ht => by
          rcases List.mem_cons.1 ht with rfl | ht
          · exact h2
          · exact r4 t ht⟩
      · exact .inr ⟨r1, r2, _ :: r, rfl, fun t ht => by
          rcases List.mem_cons.1 ht with rfl | ht
          · exact h2
          · exact r4 t ht⟩
end Edict
