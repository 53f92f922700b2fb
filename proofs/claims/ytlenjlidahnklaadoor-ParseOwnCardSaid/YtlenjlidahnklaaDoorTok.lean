/- Plain functions over a text's bytes: words, integers, texts in quotes, signs; the tokens of a text. No program in sight. -/
import Derived.Test.YtlenjlidahnklaaDoorLexP
namespace Edict
/-- Kind, Text, Int, Op, Off, End. -/
abbrev Tok := Int × List UInt8 × Int × Int × Int × Int
/-- A token, or a fault's code and place. -/
inductive TR where | ok (t : Tok) | bad (c : Int) (o : Nat)
def dgB (c : Nat) : Bool := decide (48 ≤ c) && decide (c ≤ 57)
def upB (c : Nat) : Bool := decide (65 ≤ c) && decide (c ≤ 90)
def loB (c : Nat) : Bool := decide (97 ≤ c) && decide (c ≤ 122)
def wdB (c : Nat) : Bool := dgB c || upB c || loB c || decide (c = 95)
def runF (s : List UInt8) (k : Nat) : Nat := if k < s.length ∧ wdB (bat s k) = true then runF s (k + 1) else k
termination_by s.length - k
def sub (s : List UInt8) (a b : Nat) : List UInt8 := (s.take b).drop a
def decV (l : List UInt8) : Nat := l.foldl (fun v c => v * 10 + (c.toNat - 48)) 0
def allDg (s : List UInt8) (a b : Nat) : Bool := (sub s a b).all fun c => dgB c.toNat
def wordF (s : List UInt8) (o : Nat) : TR :=
  if 64 < runF s o - o then .bad 14 o
  else if sub s o (runF s o) = [110, 111, 116] then .ok (10, [], 0, 0, o, runF s o)
  else if loB (bat s o) then .ok (1, sub s o (runF s o), 0, 0, o, runF s o)
  else .ok (2, sub s o (runF s o), 0, 0, o, runF s o)
def intF (s : List UInt8) (o b : Nat) : TR :=
  if allDg s b (runF s b) then
    (if o < b then (if decV (sub s b (runF s b)) ≤ 9223372036854775808 then .ok (3, [], -(decV (sub s b (runF s b)) : Nat), 0, o, runF s b) else .bad 13 o)
     else if decV (sub s b (runF s b)) ≤ 9223372036854775807 then .ok (3, [], (decV (sub s b (runF s b)) : Nat), 0, o, runF s b) else .bad 13 o)
  else .bad 13 o
def hexV (c : Nat) : Option Nat := if dgB c then some (c - 48) else if 97 ≤ c ∧ c ≤ 102 then some (c - 97 + 10) else if 65 ≤ c ∧ c ≤ 70 then some (c - 65 + 10) else none
/-- The byte that the escape at i means, and its length (0: none). -/
def escF (s : List UInt8) (i : Nat) : Nat × Nat :=
  if bat s (i + 1) = 34 then (34, 2) else if bat s (i + 1) = 92 then (92, 2) else if bat s (i + 1) = 110 then (10, 2) else if bat s (i + 1) = 116 then (9, 2) else if bat s (i + 1) = 114 then (13, 2)
  else if bat s (i + 1) = 120 then match hexV (bat s (i + 2)), hexV (bat s (i + 3)) with | some a, some b => (a * 16 + b, 4) | _, _ => (0, 0)
  else (0, 0)
def txtF (s : List UInt8) (o i : Nat) (acc : List UInt8) : TR :=
  if i < s.length ∧ 32 ≤ bat s i then
    if bat s i = 34 then .ok (4, acc, 0, 0, o, (i + 1 : Nat))
    else if bat s i = 92 then
      (if (escF s i).2 = 0 then .bad 12 i else if acc.length = 255 then .bad 15 o else txtF s o (i + (escF s i).2) (acc ++ [UInt8.ofNat (escF s i).1]))
    else if acc.length = 255 then .bad 15 o else txtF s o (i + 1) (acc ++ [UInt8.ofNat (bat s i)])
  else .bad 11 o
termination_by s.length - i
def sgn (k op : Int) (o n : Nat) : TR := .ok (k, [], 0, op, o, (o + n : Nat))
def signF (s : List UInt8) (o : Nat) : TR :=
  if pr s o 58 45 then sgn 9 0 o 2 else if pr s o 33 61 then sgn 11 2 o 2 else if pr s o 60 61 then sgn 11 4 o 2 else if pr s o 62 61 then sgn 11 6 o 2
  else if bat s o = 60 then sgn 11 3 o 1 else if bat s o = 62 then sgn 11 5 o 1 else if bat s o = 61 then sgn 11 1 o 1
  else if bat s o = 40 then sgn 5 0 o 1 else if bat s o = 41 then sgn 6 0 o 1 else if bat s o = 44 then sgn 7 0 o 1 else if bat s o = 46 then sgn 8 0 o 1
  else .bad 10 o
/-- The token that begins at o, behind a gap. -/
def tokF (s : List UInt8) (o : Nat) : TR :=
  if s.length ≤ o then .ok (0, [], 0, 0, o, o)
  else if dgB (bat s o) then intF s o o
  else if bat s o = 45 ∧ dgB (bat s (o + 1)) = true then intF s o (o + 1)
  else if wdB (bat s o) then wordF s o
  else if bat s o = 34 then txtF s o (o + 1) []
  else signF s o
def nextF (s : List UInt8) (k : Nat) : TR := if (gapF s k).2 then tokF s (gapF s k).1 else .bad 16 (gapF s k).1
/-- The tokens from k on, and the fault's code and place. -/
def scanN (s : List UInt8) : Nat → Nat → List Tok × Int × Nat
  | 0, _ => ([], 0, 0)
  | n + 1, k => match nextF s k with
    | .bad c o => ([], c, o)
    | .ok t => if t.1 = 0 then ([t], 0, 0) else (t :: (scanN s n t.2.2.2.2.2.toNat).1, (scanN s n t.2.2.2.2.2.toNat).2)
def scanF (s : List UInt8) : List Tok × Int × Nat := if 65536 < s.length then ([], 1, 0) else scanN s (s.length + 1) 0

theorem bat_lt (s : List UInt8) (k : Nat) : bat s k < 256 := by unfold bat; exact UInt8.toNat_lt _
theorem bat_end {s : List UInt8} {k : Nat} (h : s.length ≤ k) : bat s k = 0 := by unfold bat; rw [List.getD_eq_getElem?_getD, List.getElem?_eq_none h]; rfl
theorem runF_on {s : List UInt8} {k : Nat} (h : k < s.length) (hb : wdB (bat s k) = true) : runF s k = runF s (k + 1) := by rw [runF, if_pos ⟨h, hb⟩]
theorem runF_stop {s : List UInt8} {k : Nat} (h : ¬ (k < s.length ∧ wdB (bat s k) = true)) : runF s k = k := by rw [runF, if_neg h]
theorem runF_ge (s : List UInt8) (k : Nat) : k ≤ runF s k := by
  unfold runF; split
  · exact Nat.le_trans (Nat.le_succ k) (runF_ge s (k + 1))
  · exact Nat.le_refl k
termination_by s.length - k
theorem runF_le (s : List UInt8) (k : Nat) (h : k ≤ s.length) : runF s k ≤ s.length := by
  unfold runF; split
  · exact runF_le s (k + 1) (by omega)
  · exact h
termination_by s.length - k
theorem runF_in {s : List UInt8} {k i : Nat} (h1 : k ≤ i) (h2 : i < runF s k) : i < s.length ∧ wdB (bat s i) = true := by
  by_cases h : k < s.length ∧ wdB (bat s k) = true
  · rw [runF_on h.1 h.2] at h2
    by_cases e : i = k
    · subst e; exact h
    · exact runF_in (k := k + 1) (by omega) h2
  · rw [runF_stop h] at h2; omega
termination_by s.length - k
theorem runF_end {s : List UInt8} {k : Nat} : ¬ (runF s k < s.length ∧ wdB (bat s (runF s k)) = true) := by
  by_cases h : k < s.length ∧ wdB (bat s k) = true
  · rw [runF_on h.1 h.2]; exact runF_end
  · rw [runF_stop h]; exact h
termination_by s.length - k
theorem esc_len (s : List UInt8) (i : Nat) : (escF s i).2 = 0 ∨ (escF s i).2 = 2 ∧ i + 1 < s.length ∨ (escF s i).2 = 4 ∧ i + 3 < s.length := by
  have hb : ∀ k, bat s k ≠ 0 → k < s.length := fun k h => Nat.lt_of_not_le fun hk => h (bat_end hk)
  unfold escF
  repeat' split
  all_goals first
    | exact .inl rfl
    | (refine .inr (.inl ⟨rfl, hb _ (by omega)⟩))
    | skip
  rename_i a b ha hb2
  refine .inr (.inr ⟨rfl, hb _ fun h0 => ?_⟩)
  rw [h0] at hb2
  simp [hexV, dgB] at hb2
theorem esc_byte (s : List UInt8) (i : Nat) : (escF s i).1 < 256 := by
  have hx : ∀ c a, hexV c = some a → a < 16 := by
    intro c a h
    unfold hexV dgB at h
    split at h
    · rename_i h1; simp at h1; cases h; omega
    · split at h
      · cases h; omega
      · split at h <;> cases h; omega
  unfold escF
  repeat' split
  all_goals first
    | decide
    | skip
  rename_i a b ha hb
  have := hx _ _ ha; have := hx _ _ hb
  simp only; omega
theorem txt_ok {s : List UInt8} {o i : Nat} {acc : List UInt8} {t : Tok} (h : txtF s o i acc = .ok t) : ∃ (e : Nat) (v : List UInt8), t = (4, v, 0, 0, (o : Int), (e : Int)) ∧ i < e ∧ e ≤ s.length := by
  unfold txtF at h
  split at h
  · rename_i hi
    split at h
    · cases h; exact ⟨i + 1, acc, rfl, by omega, by omega⟩
    · split at h
      · split at h
        · cases h
        · split at h
          · cases h
          · obtain ⟨e, v, h1, h2, h3⟩ := txt_ok h
            exact ⟨e, v, h1, by omega, h3⟩
      · split at h
        · cases h
        · obtain ⟨e, v, h1, h2, h3⟩ := txt_ok h
          exact ⟨e, v, h1, by omega, h3⟩
  · cases h
termination_by s.length - i
theorem sub_len {s : List UInt8} {a b : Nat} (h : b ≤ s.length) : (sub s a b).length = b - a := by unfold sub; simp; omega
theorem run_word {s : List UInt8} {o : Nat} (h : o < s.length) (hw : wdB (bat s o) = true) : o < runF s o := by
  rw [runF_on h hw]; exact runF_ge s (o + 1)
theorem sign_ok {s : List UInt8} {o : Nat} {t : Tok} (ho : o < s.length) (h : signF s o = .ok t) : ∃ (c p : Int) (e : Nat), t = (c, [], 0, p, (o : Int), (e : Int)) ∧ c ≠ 0 ∧ o < e ∧ e ≤ s.length := by
  have two : ∀ k op a b, k ≠ 0 → pr s o a b = true → sgn k op o 2 = .ok t → ∃ (c p : Int) (e : Nat), t = (c, [], 0, p, (o : Int), (e : Int)) ∧ c ≠ 0 ∧ o < e ∧ e ≤ s.length := by
    intro k op a b hk hp h
    have := pr_lt hp
    cases h; exact ⟨k, op, o + 2, rfl, hk, by omega, by omega⟩
  have one : ∀ k op, k ≠ 0 → sgn k op o 1 = .ok t → ∃ (c p : Int) (e : Nat), t = (c, [], 0, p, (o : Int), (e : Int)) ∧ c ≠ 0 ∧ o < e ∧ e ≤ s.length := by
    intro k op hk h
    cases h; exact ⟨k, op, o + 1, rfl, hk, by omega, by omega⟩
  unfold signF at h
  by_cases q : pr s o 58 45 = true
  · rw [if_pos q] at h; exact two _ _ _ _ (by decide) q h
  rw [if_neg q] at h; clear q
  by_cases q : pr s o 33 61 = true
  · rw [if_pos q] at h; exact two _ _ _ _ (by decide) q h
  rw [if_neg q] at h; clear q
  by_cases q : pr s o 60 61 = true
  · rw [if_pos q] at h; exact two _ _ _ _ (by decide) q h
  rw [if_neg q] at h; clear q
  by_cases q : pr s o 62 61 = true
  · rw [if_pos q] at h; exact two _ _ _ _ (by decide) q h
  rw [if_neg q] at h; clear q
  by_cases q : bat s o = 60
  · rw [if_pos q] at h; exact one _ _ (by decide) h
  rw [if_neg q] at h; clear q
  by_cases q : bat s o = 62
  · rw [if_pos q] at h; exact one _ _ (by decide) h
  rw [if_neg q] at h; clear q
  by_cases q : bat s o = 61
  · rw [if_pos q] at h; exact one _ _ (by decide) h
  rw [if_neg q] at h; clear q
  by_cases q : bat s o = 40
  · rw [if_pos q] at h; exact one _ _ (by decide) h
  rw [if_neg q] at h; clear q
  by_cases q : bat s o = 41
  · rw [if_pos q] at h; exact one _ _ (by decide) h
  rw [if_neg q] at h; clear q
  by_cases q : bat s o = 44
  · rw [if_pos q] at h; exact one _ _ (by decide) h
  rw [if_neg q] at h; clear q
  by_cases q : bat s o = 46
  · rw [if_pos q] at h; exact one _ _ (by decide) h
  rw [if_neg q] at h; clear q
  cases h
/-- A token's place. -/
theorem tok_ok {s : List UInt8} {o : Nat} {t : Tok} (hk : o ≤ s.length) (h : tokF s o = .ok t) : ∃ (c : Int) (v : List UInt8) (n p : Int) (e : Nat), t = (c, v, n, p, (o : Int), (e : Int)) ∧ e ≤ s.length ∧ (c = 0 → e = o ∧ o = s.length ∧ v = [] ∧ n = 0 ∧ p = 0) ∧ (c ≠ 0 → o < e) := by
  unfold tokF at h
  split at h
  · cases h; exact ⟨0, [], 0, 0, o, rfl, hk, fun _ => ⟨rfl, by omega, rfl, rfl, rfl⟩, fun h => absurd rfl h⟩
  · rename_i ho
    have hint : ∀ b, (b = o ∨ b = o + 1) → dgB (bat s b) = true → intF s o b = .ok t → ∃ (c : Int) (v : List UInt8) (n p : Int) (e : Nat), t = (c, v, n, p, (o : Int), (e : Int)) ∧ e ≤ s.length ∧ (c = 0 → e = o ∧ o = s.length ∧ v = [] ∧ n = 0 ∧ p = 0) ∧ (c ≠ 0 → o < e) := by
      intro b hb hd hi
      have hbl : b < s.length := Nat.lt_of_not_le fun h => by rw [bat_end h] at hd; simp [dgB] at hd
      have h1 := run_word hbl (by unfold wdB; rw [hd]; rfl)
      have h2 := runF_le s b (by omega)
      unfold intF at hi
      repeat' split at hi
      all_goals first
        | cases hi; done
        | (cases hi; exact ⟨3, [], _, 0, runF s b, rfl, h2, fun h => by omega, fun _ => by omega⟩)
    split at h
    · rename_i hd; exact hint o (.inl rfl) hd h
    · split at h
      · rename_i hd; exact hint (o + 1) (.inr rfl) hd.2 h
      · split at h
        · rename_i hw
          have h1 := run_word (show o < s.length by omega) hw
          have h2 := runF_le s o (by omega)
          unfold wordF at h
          repeat' split at h
          all_goals first
            | cases h; done
            | (cases h; exact ⟨_, _, 0, 0, runF s o, rfl, h2, fun h => by omega, fun _ => h1⟩)
        · split at h
          · obtain ⟨e, v, h1, h2, h3⟩ := txt_ok h
            exact ⟨4, v, 0, 0, e, h1, h3, fun h => by omega, fun _ => by omega⟩
          · obtain ⟨c, p, e, rfl, h1, h2, h3⟩ := sign_ok (show o < s.length by omega) h
            exact ⟨c, [], 0, p, e, rfl, h3, fun h => absurd h h1, fun _ => h2⟩
theorem gap_ge {s : List UInt8} {k : Nat} : k ≤ (gapF s k).1 := by
  unfold gapF
  split
  · split
    · exact Nat.le_trans (Nat.le_succ k) gap_ge
    · split
      · exact Nat.le_trans (Nat.le_trans (Nat.le_succ k) (lineE_ge s (k + 1))) gap_ge
      · split
        · split
          · rename_i j hb; have := blk_gt s _ _ _ hb; exact Nat.le_trans (by omega) gap_ge
          · exact Nat.le_refl _
        · exact Nat.le_refl _
  · exact Nat.le_refl _
termination_by s.length - k
decreasing_by all_goals first | omega | (have := lineE_ge s (k + 1); omega) | (have := blk_gt s _ _ _ ‹_›; omega)
theorem gap_le {s : List UInt8} {k : Nat} (h : k ≤ s.length) : (gapF s k).1 ≤ s.length := by
  unfold gapF
  split
  · split
    · exact gap_le (by omega)
    · split
      · exact gap_le (lineE_le s (k + 1) (by omega))
      · split
        · split
          · rename_i j hb; have := blk_gt s _ _ _ hb; exact gap_le this.2
          · exact h
        · exact h
  · exact h
termination_by s.length - k
decreasing_by all_goals first | omega | (have := lineE_ge s (k + 1); omega) | (have := blk_gt s _ _ _ ‹_›; omega)
theorem next_ok {s : List UInt8} {k : Nat} {t : Tok} (hk : k ≤ s.length) (h : nextF s k = .ok t) : ∃ (c : Int) (v : List UInt8) (n p : Int) (o e : Nat), t = (c, v, n, p, (o : Int), (e : Int)) ∧ k ≤ o ∧ e ≤ s.length ∧ (c = 0 → e = o ∧ o = s.length ∧ v = [] ∧ n = 0 ∧ p = 0) ∧ (c ≠ 0 → o < e) := by
  unfold nextF at h
  split at h
  · obtain ⟨c, v, n, p, e, h1, h2, h3, h4⟩ := tok_ok (gap_le hk) h
    exact ⟨c, v, n, p, _, e, h1, gap_ge, h2, h3, h4⟩
  · cases h
/-- One token on. -/
theorem scanN_fuel {s : List UInt8} : ∀ {n m k : Nat}, k ≤ s.length → s.length - k < n → s.length - k < m → scanN s n k = scanN s m k
  | 0, _, _, _, h, _ => absurd h (Nat.not_lt_zero _)
  | _, 0, _, _, _, h => absurd h (Nat.not_lt_zero _)
  | n + 1, m + 1, k, hk, h1, h2 => by
    unfold scanN
    cases hx : nextF s k with
    | bad c o => rfl
    | ok t =>
      simp only
      obtain ⟨c, v, a, p, o, e, rfl, q1, q2, q3, q4⟩ := next_ok hk hx
      simp only [Int.toNat_natCast]
      by_cases hc : c = 0
      · rw [if_pos hc, if_pos hc]
      · have := q4 hc
        rw [if_neg hc, if_neg hc, scanN_fuel (n := n) (m := m) q2 (by omega) (by omega)]
def scanK (s : List UInt8) (k : Nat) : List Tok × Int × Nat := scanN s (s.length + 1) k
theorem scanK_bad {s : List UInt8} {k : Nat} {c : Int} {o : Nat} (h : nextF s k = .bad c o) : scanK s k = ([], c, o) := by unfold scanK scanN; rw [h]
theorem scanK_end {s : List UInt8} {k : Nat} {t : Tok} (h : nextF s k = .ok t) (h0 : t.1 = 0) : scanK s k = ([t], 0, 0) := by unfold scanK scanN; rw [h]; simp [h0]
theorem scanK_on {s : List UInt8} {k : Nat} {t : Tok} (hk : k ≤ s.length) (h : nextF s k = .ok t) (h0 : t.1 ≠ 0) : scanK s k = (t :: (scanK s t.2.2.2.2.2.toNat).1, (scanK s t.2.2.2.2.2.toNat).2) := by
  obtain ⟨c, v, a, p, o, e, rfl, q1, q2, q3, q4⟩ := next_ok hk h
  unfold scanK
  rw [show scanN s (s.length + 1) k = _ from by unfold scanN; rw [h]]
  simp only [Int.toNat_natCast] at h0 ⊢
  rw [if_neg h0]
  have := q4 h0
  rw [scanN_fuel (n := s.length) (m := s.length + 1) q2 (by omega) (by omega)]
end Edict
