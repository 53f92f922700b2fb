/- A fault stays behind a line feed and a dot; one fact, and a facts text of one. -/
import Derived.Test.YtmnfhmbmifompaaDoorPqG
namespace Edict
/-! ### A fault stays when a line feed and a dot are put behind -/
theorem blk_last (s : List UInt8) (d k j : Nat) (h : blk s d k = some j) : ∃ i, j = i + 2 ∧ k ≤ i ∧ pr s i 42 47 = true := by
  unfold blk at h
  split at h
  · split at h
    · obtain ⟨i, h1, h2, h3⟩ := blk_last s _ _ _ h; exact ⟨i, h1, by omega, h3⟩
    · split at h
      · rename_i h1
        split at h
        · cases h; exact ⟨k, rfl, Nat.le_refl _, h1⟩
        · obtain ⟨i, h1, h2, h3⟩ := blk_last s _ _ _ h; exact ⟨i, h1, by omega, h3⟩
      · obtain ⟨i, h1, h2, h3⟩ := blk_last s _ _ _ h; exact ⟨i, h1, by omega, h3⟩
  · cases h
termination_by s.length - k
theorem hex_ne {c a : Nat} (h : hexV c = some a) : c ≠ 10 := by rintro rfl; simp [hexV, dgB] at h
theorem esc_in {s : List UInt8} {i j : Nat} (h : (escF s i).2 ≠ 0) (h1 : i < j) (h2 : j < i + (escF s i).2) : bat s j ≠ 10 := by
  unfold escF at h h2
  by_cases q : bat s (i + 1) = 34
  · rw [if_pos q] at h2; simp only at h2; rw [show j = i + 1 by omega, q]; decide
  rw [if_neg q] at h h2; clear q
  by_cases q : bat s (i + 1) = 92
  · rw [if_pos q] at h2; simp only at h2; rw [show j = i + 1 by omega, q]; decide
  rw [if_neg q] at h h2; clear q
  by_cases q : bat s (i + 1) = 110
  · rw [if_pos q] at h2; simp only at h2; rw [show j = i + 1 by omega, q]; decide
  rw [if_neg q] at h h2; clear q
  by_cases q : bat s (i + 1) = 116
  · rw [if_pos q] at h2; simp only at h2; rw [show j = i + 1 by omega, q]; decide
  rw [if_neg q] at h h2; clear q
  by_cases q : bat s (i + 1) = 114
  · rw [if_pos q] at h2; simp only at h2; rw [show j = i + 1 by omega, q]; decide
  rw [if_neg q] at h h2; clear q
  by_cases q : bat s (i + 1) = 120
  · rw [if_pos q] at h h2
    cases h3 : hexV (bat s (i + 2)) with
    | none => rw [h3] at h; exact absurd rfl h
    | some a =>
      cases h4 : hexV (bat s (i + 3)) with
      | none => rw [h3, h4] at h; exact absurd rfl h
      | some b =>
        rw [h3, h4] at h2
        simp only at h2
        obtain e | e | e : j = i + 1 ∨ j = i + 2 ∨ j = i + 3 := by omega
        · rw [e, q]; decide
        · rw [e]; exact hex_ne h3
        · rw [e]; exact hex_ne h4
  · rw [if_neg q] at h; exact absurd rfl h
theorem txt_in {s : List UInt8} {o i : Nat} {acc : List UInt8} {t : Tok} (h : txtF s o i acc = .ok t) : ∀ j : Nat, i ≤ j → (j : Int) < t.2.2.2.2.2 → bat s j ≠ 10 := by
  unfold txtF at h
  split at h
  · rename_i hi
    split at h
    · cases h
      intro j h1 h2
      simp only at h2
      rw [show j = i by omega]; omega
    · split at h
      · split at h
        · cases h
        · rename_i hz
          split at h
          · cases h
          · intro j h1 h2
            by_cases hj : j < i + (escF s i).2
            · by_cases he : j = i
              · rw [he]; omega
              · exact esc_in hz (by omega) hj
            · exact txt_in h j (by omega) h2
      · split at h
        · cases h
        · intro j h1 h2
          by_cases he : j = i
          · rw [he]; omega
          · exact txt_in h j (by omega) h2
  · cases h
termination_by s.length - i
theorem wd_ne {c : Nat} (h : wdB c = true) : c ≠ 10 := by rintro rfl; revert h; decide
theorem sign_in {s : List UInt8} {o : Nat} {t : Tok} (h : signF s o = .ok t) : ∀ j : Nat, o ≤ j → (j : Int) < t.2.2.2.2.2 → bat s j ≠ 10 := by
  have two : ∀ k op a b, a ≠ 10 → b ≠ 10 → pr s o a b = true → sgn k op o 2 = .ok t → ∀ j : Nat, o ≤ j → (j : Int) < t.2.2.2.2.2 → bat s j ≠ 10 := by
    intro k op a b ha hb hp h j h1 h2
    cases h
    simp only at h2
    simp [pr] at hp
    obtain e | e : j = o ∨ j = o + 1 := by omega
    · rw [e, hp.1.2]; exact ha
    · rw [e, hp.2]; exact hb
  have one : ∀ k op a, a ≠ 10 → bat s o = a → sgn k op o 1 = .ok t → ∀ j : Nat, o ≤ j → (j : Int) < t.2.2.2.2.2 → bat s j ≠ 10 := by
    intro k op a ha hp h j h1 h2
    cases h
    simp only at h2
    rw [show j = o by omega, hp]; exact ha
  unfold signF at h
  by_cases q : pr s o 58 45 = true
  · rw [if_pos q] at h; exact two _ _ _ _ (by decide) (by decide) q h
  rw [if_neg q] at h; clear q
  by_cases q : pr s o 33 61 = true
  · rw [if_pos q] at h; exact two _ _ _ _ (by decide) (by decide) q h
  rw [if_neg q] at h; clear q
  by_cases q : pr s o 60 61 = true
  · rw [if_pos q] at h; exact two _ _ _ _ (by decide) (by decide) q h
  rw [if_neg q] at h; clear q
  by_cases q : pr s o 62 61 = true
  · rw [if_pos q] at h; exact two _ _ _ _ (by decide) (by decide) q h
  rw [if_neg q] at h; clear q
  by_cases q : bat s o = 60
  · rw [if_pos q] at h; exact one _ _ _ (by decide) q h
  rw [if_neg q] at h; clear q
  by_cases q : bat s o = 62
  · rw [if_pos q] at h; exact one _ _ _ (by decide) q h
  rw [if_neg q] at h; clear q
  by_cases q : bat s o = 61
  · rw [if_pos q] at h; exact one _ _ _ (by decide) q h
  rw [if_neg q] at h; clear q
  by_cases q : bat s o = 40
  · rw [if_pos q] at h; exact one _ _ _ (by decide) q h
  rw [if_neg q] at h; clear q
  by_cases q : bat s o = 41
  · rw [if_pos q] at h; exact one _ _ _ (by decide) q h
  rw [if_neg q] at h; clear q
  by_cases q : bat s o = 44
  · rw [if_pos q] at h; exact one _ _ _ (by decide) q h
  rw [if_neg q] at h; clear q
  by_cases q : bat s o = 46
  · rw [if_pos q] at h; exact one _ _ _ (by decide) q h
  rw [if_neg q] at h
  cases h
/-- No line feed inside a token. -/
theorem tok_in {s : List UInt8} {o : Nat} {t : Tok} (h : tokF s o = .ok t) : ∀ j : Nat, o ≤ j → (j : Int) < t.2.2.2.2.2 → bat s j ≠ 10 := by
  unfold tokF at h
  split at h
  · cases h; intro j h1 h2; simp only at h2; omega
  · have hint : ∀ b, (b = o ∨ b = o + 1 ∧ bat s o = 45) → intF s o b = .ok t → ∀ j : Nat, o ≤ j → (j : Int) < t.2.2.2.2.2 → bat s j ≠ 10 := by
      intro b hb hi j h1 h2
      have he : t.2.2.2.2.2 = (runF s b : Nat) := by
        unfold intF at hi
        repeat' split at hi
        all_goals first
          | cases hi; done
          | (cases hi; rfl)
      rw [he] at h2
      by_cases hj : b ≤ j
      · exact wd_ne (runF_in hj (by omega)).2
      · rcases hb with rfl | ⟨rfl, hb⟩
        · omega
        · rw [show j = o by omega, hb]; decide
    split at h
    · exact hint o (.inl rfl) h
    · split at h
      · rename_i hd; exact hint (o + 1) (.inr ⟨rfl, hd.1⟩) h
      · split at h
        · intro j h1 h2
          have he : t.2.2.2.2.2 = (runF s o : Nat) := by
            unfold wordF at h
            repeat' split at h
            all_goals first
              | cases h; done
              | (cases h; rfl)
          rw [he] at h2
          exact wd_ne (runF_in h1 (by omega)).2
        · split at h
          · rename_i h34
            intro j h1 h2
            by_cases hj : j = o
            · rw [hj, h34]; decide
            · exact txt_in h j (by omega) h2
          · exact sign_in h
section
variable {A : List UInt8}
theorem dot_len : (A ++ 10 :: [46]).length = A.length + 2 := by simp
theorem dot_at {i : Nat} (h : i < A.length) : bat (A ++ 10 :: [46]) i = bat A i := bat_appL h
theorem dot_lf : bat (A ++ 10 :: [46]) A.length = 10 := bat_appR (s := A) (t := 10 :: [46]) (i := 0)
theorem dot_46 : bat (A ++ 10 :: [46]) (A.length + 1) = 46 := bat_appR (s := A) (t := 10 :: [46]) (i := 1)
theorem dot_ag {a n : Nat} (h : a + n ≤ A.length) : Ag A (A ++ 10 :: [46]) a a n := ⟨h, by rw [dot_len]; omega, fun i hi => by rw [dot_at (by omega)]⟩
theorem dot_ga {a n : Nat} (h : a + n ≤ A.length) : Ag (A ++ 10 :: [46]) A a a n := ⟨by rw [dot_len]; omega, h, fun i hi => by rw [dot_at (by omega)]⟩
theorem dot_fol {a n : Nat} (h : a + n ≤ A.length) : Fol A (A ++ 10 :: [46]) a a n := by
  by_cases q : a + n = A.length
  · exact .inr (.inl (by rw [q, dot_lf]; decide))
  · exact .inr (.inr ⟨by omega, by rw [dot_len]; omega, dot_at (by omega)⟩)
theorem dot_lof {a n : Nat} (h : a + n ≤ A.length) : Fol (A ++ 10 :: [46]) A a a n := by
  by_cases q : a + n = A.length
  · exact .inl q
  · exact .inr (.inr ⟨by rw [dot_len]; omega, by omega, (dot_at (by omega)).symm⟩)
theorem dot_pr {k x y : Nat} (hk : k < A.length) (hy : y ≠ 10) : pr (A ++ 10 :: [46]) k x y = pr A k x y := by
  rw [pr_eq, pr_eq, dot_len, dot_at hk]
  by_cases h : k + 1 < A.length
  · rw [dot_at h]; simp [h, show k < A.length + 1 by omega]
  · have : k + 1 = A.length := by omega
    rw [this, dot_lf]; simp; omega
theorem gap_dot (k : Nat) (hk : k ≤ A.length) {g : Nat} {b : Bool} (h : gapF A k = (g, b)) (hg : g < A.length ∨ b = false) : gapF (A ++ 10 :: [46]) k = (g, b) := by
  by_cases hlt : k < A.length
  case neg =>
    rw [gap_end (by omega)] at h
    cases h
    rcases hg with hg | hg
    · exact absurd hg hlt
    · cases hg
  have h0 := dot_at hlt
  have hlJ := dot_len (A := A)
  by_cases hb : isBl (bat A k) = true
  · rw [gap_bl hlt hb] at h
    rw [gap_bl (by omega) (by rw [h0]; exact hb)]
    exact gap_dot (k + 1) (by omega) h hg
  by_cases h37 : bat A k = 37
  · rw [gap_line hlt h37] at h
    have g1 := lineE_ge A (k + 1)
    have g2 := lineE_le A (k + 1) (by omega)
    have hst := lineE_stops (s := A) (k := k + 1) (by omega)
    have hin := fun i => lineE_in (s := A) (k := k + 1) (i := i)
    have hlt2 : lineE (A ++ 10 :: [46]) (k + 1) = lineE A (k + 1) := by
      refine lineE_is g1 (by omega) (fun i i1 i2 => by rw [dot_at (by omega)]; exact hin i i1 i2) (.inr ?_)
      rcases hst with q | ⟨q, q2⟩
      · rw [q]; exact dot_lf
      · rw [dot_at q2]; exact q
    rw [gap_line (by omega) (by rw [h0]; exact h37), hlt2]
    exact gap_dot _ g2 h hg
  by_cases hp : pr A k 47 42 = true
  · have hp' : pr (A ++ 10 :: [46]) k 47 42 = true := by rw [dot_pr hlt (by decide)]; exact hp
    have hpl := pr_lt hp
    cases hbk : blk A 1 (k + 2) with
    | none =>
      rw [gap_none hp hbk] at h
      cases hbj : blk (A ++ 10 :: [46]) 1 (k + 2) with
      | none => rw [gap_none hp' hbj]; exact h
      | some x =>
        exfalso
        obtain ⟨i, i1, i2, i3⟩ := blk_last _ _ _ _ hbj
        have hx : x ≤ A.length := Nat.le_of_not_lt fun q => by
          rw [pr_eq] at i3
          simp only [Bool.and_eq_true, decide_eq_true_eq] at i3
          obtain ⟨⟨i4, -⟩, i5⟩ := i3
          rw [hlJ] at i4
          obtain e | e : i + 1 = A.length ∨ i + 1 = A.length + 1 := by omega
          · rw [e, dot_lf] at i5; exact absurd i5 (by decide)
          · rw [e, dot_46] at i5; exact absurd i5 (by decide)
        have := blk_loc (k2 := k + 2) hbj (dot_ga (by omega))
        rw [this] at hbk; cases hbk
    | some x =>
      have hgt := blk_gt A _ _ _ hbk
      rw [gap_some hp hbk] at h
      have := blk_loc (k2 := k + 2) hbk (dot_ag (by omega))
      rw [show k + 2 + (x - (k + 2)) = x by omega] at this
      rw [gap_some hp' this]
      exact gap_dot x hgt.2 h hg
  · have hp0 : pr A k 47 42 = false := by simpa using hp
    rw [gap_else (by simpa using hb) h37 hp0] at h
    rw [gap_else (by rw [h0]; simpa using hb) (by rw [h0]; exact h37) (by rw [dot_pr hlt (by decide)]; exact hp0)]
    exact h
termination_by A.length - k
decreasing_by
  · omega
  · have := lineE_ge A (k + 1); omega
  · have := blk_gt A _ _ _ hbk; omega
theorem tok_dot {o : Nat} (ho : o < A.length) {c : Int} {p : Nat} (h : tokF A o = .bad c p) : ∃ c' p', tokF (A ++ 10 :: [46]) o = .bad c' p' := by
  cases hj : tokF (A ++ 10 :: [46]) o with
  | bad c' p' => exact ⟨c', p', rfl⟩
  | ok t =>
    exfalso
    have hlJ := dot_len (A := A)
    obtain ⟨c', v, n, p', e, rfl, h2, h3, h4⟩ := tok_ok (by omega) hj
    have hc : c' ≠ 0 := fun q => by have := h3 q; omega
    have := h4 hc
    by_cases he : e ≤ A.length
    · have := tok_loc (b := o) hj hc (dot_ga (by omega)) (dot_lof (by omega))
      rw [this] at h; cases h
    · exact tok_in hj A.length (by omega) (by simp only; omega) dot_lf
theorem scan_dot : ∀ (n k : Nat), A.length - k < n → k ≤ A.length → (∀ c o, nextF A k = .bad c o → ∃ c' o', nextF (A ++ 10 :: [46]) k = .bad c' o') ∧ ((scanK A k).2.1 ≠ 0 → ∀ t ∈ (scanK (A ++ 10 :: [46]) k).1, tK t ≠ 0)
  | 0, k, h, _ => absurd h (Nat.not_lt_zero _)
  | n + 1, k, hn, hk => by
    have hlJ := dot_len (A := A)
    have hbad : ∀ c o, nextF A k = .bad c o → ∃ c' o', nextF (A ++ 10 :: [46]) k = .bad c' o' := by
      intro c o h
      unfold nextF at h ⊢
      split at h
      · rename_i hg
        have hle := gap_le (s := A) hk
        have hlt : (gapF A k).1 < A.length := by
          refine Nat.lt_of_le_of_ne hle fun q => ?_
          rw [q, tok_fin (Nat.le_refl _)] at h; cases h
        have := gap_dot k hk (g := (gapF A k).1) (b := (gapF A k).2) rfl (.inl hlt)
        rw [this, if_pos hg]
        exact tok_dot hlt h
      · rename_i hg
        have := gap_dot k hk (g := (gapF A k).1) (b := (gapF A k).2) rfl (.inr (by simpa using hg))
        rw [this, if_neg hg]
        exact ⟨_, _, rfl⟩
    refine ⟨hbad, fun hf => ?_⟩
    cases hx : nextF A k with
    | bad c o =>
      obtain ⟨c', o', h⟩ := hbad c o hx
      rw [scanK_bad h]
      intro t ht; cases ht
    | ok t =>
      have hx0 := hx
      obtain ⟨c, v, a, p, o, e, rfl, q1, q2, q3, q4⟩ := next_ok hk hx
      by_cases hc : c = 0
      · rw [scanK_end hx hc] at hf; exact absurd rfl hf
      · have := q4 hc
        rw [scanK_on hk hx hc] at hf
        simp only [Int.toNat_natCast] at hf
        have hJ := next_beg hk hx hc (dot_ag (a := 0) (n := e) (by omega)) (dot_fol (a := o) (n := e - o) (by omega))
        rw [scanK_on (by omega) hJ hc]
        simp only [Int.toNat_natCast]
        intro t ht
        rcases List.mem_cons.1 ht with rfl | ht
        · exact hc
        · exact (scan_dot n e (by omega) q2).2 hf t ht
end
/-! ### One fact, and a facts text of one -/
theorem one_at {s k : Int} (h : Rch 20 s) (hk : k ≠ 0) (hm : moveF 20 s k ≠ -1) : moveF 15 (s - 5) k = moveF 20 s k - 5 ∧ k ≠ 8 ∧ depS (moveF 20 s k - 5) = depF (depS (s - 5)) k ∧ (∀ n, tkL (s - 5) k n = tkL s k n) ∧ (∀ n, tkT (s - 5) k n = tkT s k n) ∧ (s ≠ 20 → ∀ c, tkC (s - 5) k c = c) ∧ moveF 20 s k ≠ 20 := by
  unfold Rch at h
  obtain h | h | h | h | h : s = 20 ∨ s = 21 ∨ s = 22 ∨ s = 23 ∨ s = 24 := by omega
  all_goals
    subst h
    unfold moveF behF at hm ⊢
    simp only [Int.reduceEq, if_true, if_false, hk, tkC, tkL, tkT, Int.reduceSub] at hm ⊢
    repeat' split at hm
    all_goals first
      | (exact absurd rfl hm)
      | (rename_i q; rcases isT_k q with q | q | q | q <;> (subst q; simp_all [depS, depF, isT]))
      | (subst_vars; simp [depS, depF])
theorem ta_at {s k : Int} (h : 16 ≤ s ∧ s ≤ 19) (h8 : k ≠ 8) (hk : k ≠ 0) (hm : moveF 15 s k ≠ -1) : moveF 20 (s + 5) k = moveF 15 s k + 5 ∧ 16 ≤ moveF 15 s k ∧ moveF 15 s k ≤ 19 ∧ (∀ n, tkL (s + 5) k n = tkL s k n) ∧ (∀ n, tkT (s + 5) k n = tkT s k n) := by
  obtain h | h | h | h : s = 16 ∨ s = 17 ∨ s = 18 ∨ s = 19 := by omega
  all_goals
    subst h
    unfold moveF behF at hm ⊢
    simp only [Int.reduceEq, if_true, if_false, hk, h8, tkL, tkT, Int.reduceAdd] at hm ⊢
    repeat' split at hm
    all_goals first
      | (exact absurd rfl hm)
      | (rename_i q; rcases isT_k q with q | q | q | q <;> (subst q; simp_all [isT]))
      | (subst_vars; simp)
theorem over_20 {c n m : Nat} (h : overF 20 c n m = 0) (d : Nat) (hd : d ≤ 4096) : overF 15 d n m = 0 := by
  unfold overF capC at h ⊢
  simp only [Int.reduceEq, decide_false, Bool.false_and, Bool.or_false, Bool.false_eq_true, if_false, decide_true, Bool.true_and, Bool.false_or] at h ⊢
  rw [if_neg (by simp; omega)]
  exact h
theorem over_15 {c n m : Nat} (h : overF 15 c n m = 0) (d : Nat) : overF 20 d n m = 0 := by
  unfold overF capC at h ⊢
  simp only [Int.reduceEq, decide_false, Bool.false_and, Bool.or_false, Bool.false_eq_true, if_false, decide_true, Bool.true_and, Bool.false_or] at h ⊢
  split at h
  · exact absurd h (by decide)
  · exact h
/-- A fact that stands: with a dot it is a facts text of one. -/
theorem one_run {e d e' : Tok} (he : tK e = 0) (hd : tK d = 8) (he' : tK e' = 0) : ∀ (p : List Tok) (s : Int) (c n m c' : Nat) (now : List Tok), (∀ x ∈ p, tK x ≠ 0) → Rch 20 s → (s = 20 → c' = 0) → c' ≤ 1 → chkF 20 (0, 0) s c n m (p ++ [e]) = (0, 0) →
    (s ≠ 20 ∨ p ≠ []) ∧ chkF 15 (0, 0) (s - 5) c' n m (p ++ [d, e']) = (0, 0) ∧ cutF 8 (depS (s - 5)) now (p ++ [d, e']) = [now ++ p, [e']]
  | [], s, c, n, m, c', now, hp, hr, hc, hc1, h => by
    rw [List.nil_append, chkF, he] at h
    have hs : s = 21 ∨ s = 24 := by
      split at h
      · exact absurd (congrArg Prod.fst h) (refuse_ne e)
      · rename_i h1
        unfold Rch at hr
        refine Classical.byContradiction fun q => h1 ?_
        obtain h | h | h : s = 20 ∨ s = 22 ∨ s = 23 := by omega
        all_goals (subst h; decide)
    split at h
    · exact absurd (congrArg Prod.fst h) (refuse_ne e)
    split at h
    · rename_i h2; exact absurd (congrArg Prod.fst h) h2
    rename_i h1 h2
    have h2' := Classical.not_not.1 h2
    have h15 : moveF 15 (s - 5) 8 = 15 := by rcases hs with rfl | rfl <;> decide
    have hl : tkL s 0 n = n := by unfold tkL; rw [if_neg (by decide), if_neg (by omega)]
    have ht : tkT s 0 m = m := by unfold tkT; rw [if_neg (by decide), if_neg (by omega)]
    rw [hl, ht] at h2'
    have hl2 : ∀ a b, (a = 15 ∨ a = s - 5) → (b = 8 ∨ b = 0) → tkL a b n = n := fun a b ha hb => by unfold tkL; rw [if_neg (by omega), if_neg (by omega)]
    have ht2 : ∀ a b, (a = 15 ∨ a = s - 5) → (b = 8 ∨ b = 0) → tkT a b m = m := fun a b ha hb => by unfold tkT; rw [if_neg (by omega), if_neg (by omega)]
    have hc2 : ∀ a b, (b = 8 ∨ b = 0) → tkC a b c' = c' := fun a b hb => by unfold tkC; rw [if_neg (by omega)]
    have ho := over_20 h2' c' (by omega)
    refine ⟨.inl (by omega), ?_, ?_⟩
    · rw [List.nil_append, chk_on (n := 15) (by rw [hd]; exact h15) (by decide) (by rw [hd]; exact hc2 _ _ (.inl rfl)) (by rw [hd]; exact hl2 _ _ (.inr rfl) (.inl rfl)) (by rw [hd]; exact ht2 _ _ (.inr rfl) (.inl rfl)) ho,
        chk_on (n := 26) (by rw [he']; decide) (by decide) (by rw [he']; exact hc2 _ _ (.inr rfl)) (by rw [he']; exact hl2 _ _ (.inl rfl) (.inr rfl)) (by rw [he']; exact ht2 _ _ (.inl rfl) (.inr rfl)) ho]
      rfl
    · have hdp : depS (s - 5) = 0 := by rcases hs with rfl | rfl <;> decide
      rw [List.nil_append, hdp, cutF, if_pos ⟨hd, by rw [hd]; decide⟩, cutF, if_neg (by rw [he']; rintro ⟨q, -⟩; exact absurd q (by decide)), List.append_nil]
      rfl
  | x :: p, s, c, n, m, c', now, hp, hr, hc, hc1, h => by
    have hx := hp x (by simp)
    rw [List.cons_append, chkF] at h
    split at h
    · exact absurd (congrArg Prod.fst h) (refuse_ne x)
    rename_i h1
    split at h
    · rename_i h2
      exact absurd (congrArg Prod.fst h) h2
    rename_i h2
    have h2' := Classical.not_not.1 h2
    obtain ⟨a1, a2, a3, a4, a5, a6, a7⟩ := one_at hr hx h1
    have hcs : tkC (s - 5) (tK x) c' ≤ 1 := by
      by_cases hs : s = 20
      · rw [hc hs]; unfold tkC; split <;> omega
      · rw [a6 hs]; exact hc1
    have hr2 := rch_move hr hx h1
    obtain ⟨-, g2, g3⟩ := one_run he hd he' p (moveF 20 s (tK x)) (tkC s (tK x) c) (tkL s (tK x) n) (tkT s (tK x) m) (tkC (s - 5) (tK x) c') (now ++ [x]) (fun y hy => hp y (List.mem_cons_of_mem _ hy)) hr2 (fun q => absurd q a7) hcs h
    refine ⟨.inr (by simp), ?_, ?_⟩
    · rw [List.cons_append, chk_on (n := moveF 20 s (tK x) - 5) a1 (by unfold Rch at hr2; omega) rfl (a4 n) (a5 m) (over_20 h2' _ (by omega))]
      exact g2
    · rw [List.cons_append, cutF, if_neg (fun q => a2 q.1), ← a3, g3, List.append_assoc]
      rfl
/-- A facts text whose only dot is its last token: without it, it is a fact. -/
theorem ta_run {e d e' : Tok} (he : tK e = 0) (hd : tK d = 8) (he' : tK e' = 0) : ∀ (p : List Tok) (s : Int) (c n m c' : Nat), (∀ x ∈ p, tK x ≠ 0 ∧ tK x ≠ 8) → 16 ≤ s ∧ s ≤ 19 → chkF 15 (0, 0) s c n m (p ++ [d, e']) = (0, 0) → chkF 20 (0, 0) (s + 5) c' n m (p ++ [e]) = (0, 0)
  | [], s, c, n, m, c', hp, hs, h => by
    rw [List.nil_append, chkF, hd] at h
    split at h
    · exact absurd (congrArg Prod.fst h) (refuse_ne d)
    rename_i h1
    split at h
    · rename_i h2; exact absurd (congrArg Prod.fst h) h2
    rename_i h2
    have h2' := Classical.not_not.1 h2
    have hs2 : s = 16 ∨ s = 19 := by
      refine Classical.byContradiction fun q => h1 ?_
      obtain h | h : s = 17 ∨ s = 18 := by omega
      all_goals (subst h; decide)
    have hl : tkL s 8 n = n := by unfold tkL; rw [if_neg (by decide), if_neg (by omega)]
    have ht : tkT s 8 m = m := by unfold tkT; rw [if_neg (by decide), if_neg (by omega)]
    rw [hl, ht] at h2'
    rw [List.nil_append, chk_on (n := 26) (c' := c') (l' := n) (t' := m) (by rw [he]; rcases hs2 with rfl | rfl <;> decide) (by decide) (by rw [he]; unfold tkC; rw [if_neg (by omega)]) (by rw [he]; unfold tkL; rw [if_neg (by omega), if_neg (by omega)]) (by rw [he]; unfold tkT; rw [if_neg (by omega), if_neg (by omega)]) (over_15 h2' _)]
    rfl
  | x :: p, s, c, n, m, c', hp, hs, h => by
    obtain ⟨hx, hx8⟩ := hp x (by simp)
    rw [List.cons_append, chkF] at h
    split at h
    · exact absurd (congrArg Prod.fst h) (refuse_ne x)
    rename_i h1
    split at h
    · rename_i h2
      exact absurd (congrArg Prod.fst h) h2
    rename_i h2
    have h2' := Classical.not_not.1 h2
    obtain ⟨a1, a2, a3, a4, a5⟩ := ta_at hs hx8 hx h1
    have := ta_run he hd he' p _ _ _ _ (tkC (s + 5) (tK x) c') (fun y hy => hp y (List.mem_cons_of_mem _ hy)) ⟨a2, a3⟩ h
    rw [List.cons_append, chk_on a1 (by omega) rfl (a4 n) (a5 m) (over_15 h2' _)]
    exact this
theorem run_dots {f : Int} (hf : f = 0 ∨ f = 15) {bad : Flt} {e : Tok} (he : tK e = 0) : ∀ (p : List Tok) (s : Int) (c n m : Nat) (now : List Tok), (∀ x ∈ p, tK x ≠ 0) → Rch f s → chkF f bad s c n m (p ++ [e]) = (0, 0) →
    (cutF 8 (depS s) now (p ++ [e])).length = 1 + p.countP fun x => decide (tK x = 8)
  | [], s, c, n, m, now, hp, hr, h => by
    rw [List.nil_append, cutF, if_neg (by rw [he]; rintro ⟨q, -⟩; exact absurd q (by decide))]
    rfl
  | x :: p, s, c, n, m, now, hp, hr, h => by
    have hx := hp x (by simp)
    rw [List.cons_append, chkF] at h
    split at h
    · exact absurd (congrArg Prod.fst h) (refuse_ne x)
    rename_i h1
    split at h
    · rename_i h2
      exact absurd (congrArg Prod.fst h) h2
    obtain ⟨a1, a2, a3, a4⟩ := step_at hf hr hx h1
    rw [List.countP_cons, List.cons_append, cutF]
    by_cases h8 : tK x = 8
    · have := run_dots hf he p _ _ _ _ [] (fun y hy => hp y (List.mem_cons_of_mem _ hy)) (rch_move hr hx h1) h
      rw [if_pos ⟨h8, (a2 h8).1⟩, if_pos (by simp [h8]), ← a1, List.length_cons, this]
      omega
    · have := run_dots hf he p _ _ _ _ (now ++ [x]) (fun y hy => hp y (List.mem_cons_of_mem _ hy)) (rch_move hr hx h1) h
      rw [if_neg (fun q => h8 q.1), if_neg (by simp [h8]), ← a1, this]
      omega
theorem dot_scan : scanK [46] 0 = ([(8, [], 0, 0, 0, 1), (0, [], 0, 0, 1, 1)], 0, 0) := by kernel_rfl
theorem atomF_end {p : List Tok} {e : Tok} (he : tK e = 0) (hp : p ≠ []) : atomF (p ++ [e]) = atomF p := by
  cases p with
  | nil => exact absurd rfl hp
  | cons t r =>
    have : argsOf (r ++ [e]) = argsOf r := by
      unfold argsOf
      rw [List.filter_append, List.map_append]
      simp [he, isT]
    rw [List.cons_append, atomF, atomF, this]
/-- P3.1: a text is one fact just if, with a dot, it is a facts text of one; the two say the same. -/
theorem one_of {src : List UInt8} (hl : src.length ≤ 65000) : (∃ a, parseF oneD src = .ok a ∧ resFacs (src ++ 10 :: [46]) = ([a], (0, 0))) ∨ (∃ e, parseF oneD src = .error e ∧ e.1 ≠ 0 ∧ ((resFacs (src ++ 10 :: [46])).2.1 ≠ 0 ∨ (resFacs (src ++ 10 :: [46])).1.length ≠ 1)) := by
  have hlS : src.length ≤ 65536 := by omega
  obtain ⟨J, hJ⟩ : ∃ J, J = src ++ 10 :: [46] := ⟨_, rfl⟩
  rw [← hJ]
  have hlJ : J.length ≤ 65536 := by rw [hJ]; simp; omega
  obtain ⟨dt, hdt⟩ : ∃ dt : Tok, dt = shT (src.length + 1) (8, [], 0, 0, 0, 1) := ⟨_, rfl⟩
  obtain ⟨et, het⟩ : ∃ et : Tok, et = shT (src.length + 1) (0, [], 0, 0, 1, 1) := ⟨_, rfl⟩
  have kd : tK dt = 8 := by rw [hdt]; rfl
  have ke : tK et = 0 := by rw [het]; rfl
  -- the tokens, when the text itself has no fault of lex
  have htoks : ∀ p, scanK src 0 = (p ++ [endT src.length], 0, 0) → (∀ x ∈ p, tK x ≠ 0) → (scanF J).1 = p ++ [dt, et] ∧ badF J = (0, 0) := by
    intro p h1 h2
    have hj := scan_join (A := src) (B := [46]) (r := p) (k := 0) (Nat.zero_le _) h2 h1
    rw [dot_scan, ← hJ] at hj
    refine ⟨by rw [scanF_is hlJ, hj, hdt, het]; rfl, by unfold badF; rw [scanF_is hlJ, hj]; rfl⟩
  have hgS := good_src hlS
  have hgJ := good_src hlJ
  have hpo : parseF oneD src = oneD (badF src) (scanF src).1 := by unfold parseF; rw [if_neg (by omega)]
  have hpf : parseF (fun b l => factsD b [] l) J = factsD (badF J) [] (scanF J).1 := by unfold parseF; rw [if_neg (by omega)]
  have fwd : fltF 20 src = (0, 0) → ∃ a, parseF oneD src = .ok a ∧ resFacs J = ([a], (0, 0)) := by
    intro h
    obtain ⟨-, h2, p, h3, h4, h5⟩ := flt_right h
    obtain ⟨t1, t2⟩ := htoks p h3 h4
    obtain ⟨r1, r2, r3⟩ := one_run (e := endT src.length) (d := dt) (e' := et) rfl kd ke p 20 0 0 0 0 [] h4 (by unfold Rch; decide) (fun _ => rfl) (by omega) h5
    have hp : p ≠ [] := r1.resolve_left (by simp)
    have hsc : (scanF src).1 = p ++ [endT src.length] := by rw [scanF_is hlS, h3]
    cases ho : parseF oneD src with
    | error e =>
      have := one_flt.1 e ho
      have hne := ((one_same hgS).1 e (by rw [← hpo]; exact ho)).2
      rw [← this, h] at hne; exact absurd rfl hne
    | ok a =>
      have ha := ((one_same hgS).2 a (by rw [← hpo]; exact ho)).2.1
      rw [hsc, atomF_end rfl hp] at ha
      refine ⟨a, rfl, ?_⟩
      have hf15 : fltF 15 J = (0, 0) := by unfold fltF; rw [if_neg (by omega), t1, t2]; exact r2
      rcases resFacs_cases J with ⟨e', w1, w2, w3⟩ | ⟨a', w1, w3⟩
      · have := facts_flt.1 e' w3
        rw [hf15] at this
        rw [← this] at w2; exact absurd rfl w2
      · have hv := ((facts_same hgJ).2 a' (by rw [← hpf]; exact w3)).2.1
        rw [w1, hv, t1]
        unfold sentF
        rw [show depS (20 - 5) = 0 by decide, List.nil_append] at r3
        rw [r3, ha]
        rfl
  cases ho : parseF oneD src with
  | ok a =>
    obtain ⟨a', b1, b2⟩ := fwd (one_flt.2 a ho)
    rw [ho] at b1; cases b1
    exact .inl ⟨a, rfl, b2⟩
  | error e =>
    have hne := ((one_same hgS).1 e (by rw [← hpo]; exact ho)).2
    refine .inr ⟨e, rfl, hne, ?_⟩
    refine Classical.byContradiction fun hno => ?_
    rcases resFacs_cases J with ⟨e', w1, w2, w3⟩ | ⟨a', w1, w3⟩
    · rw [w1] at hno; exact hno (.inl w2)
    rw [w1] at hno
    have hlen : a'.length = 1 := Classical.byContradiction fun q => hno (.inr q)
    have hf15 : fltF 15 J = (0, 0) := facts_flt.2 a' w3
    have hv := ((facts_same hgJ).2 a' (by rw [← hpf]; exact w3)).2.1
    -- lex has no fault in the text
    obtain ⟨-, hbJ, pJ, s3, s4, s5⟩ := flt_right hf15
    have hnf : (scanK src 0).2.1 = 0 := by
      refine Classical.byContradiction fun q => ?_
      have := (scan_dot (A := src) (src.length + 1) 0 (by omega) (Nat.zero_le _)).2 q (endT J.length) (by rw [← hJ, s3]; simp)
      exact this rfl
    have hok : ∃ p, scanK src 0 = (p ++ [endT src.length], 0, 0) ∧ ∀ x ∈ p, tK x ≠ 0 := by
      obtain ⟨h1, -⟩ := scan_sorted (s := src) (k := 0) (l := (scanK src 0).1) (f := (scanK src 0).2) (Nat.zero_le _) rfl
      rw [scanF_is hlS] at hgS
      rcases hgS with ⟨g1, g2⟩ | ⟨g1, p, t, g2, g3, g4⟩
      · exfalso; unfold badF at g1; rw [scanF_is hlS] at g1; exact g1 hnf
      · have ht : t = endT src.length := (h1 t (by rw [g2]; simp)).2.2.2 g3
        refine ⟨p, ?_, g4⟩
        unfold badF at g1
        rw [scanF_is hlS] at g1
        have w2 := congrArg Prod.snd g1
        simp only at w2
        have hb : (scanK src 0).2 = (0, 0) := Prod.ext hnf (show (scanK src 0).2.2 = 0 by omega)
        rw [← ht, ← g2, ← hb]
    obtain ⟨p, h1, h2⟩ := hok
    obtain ⟨t1, t2⟩ := htoks p h1 h2
    have hchk : chkF 15 (0, 0) 15 0 0 0 (p ++ [dt, et]) = (0, 0) := by
      have q : fltF 15 J = chkF 15 (0, 0) 15 0 0 0 (p ++ [dt, et]) := by unfold fltF; rw [if_neg (by omega), t1, t2]
      rw [← q]; exact hf15
    have hsp : p ++ [dt, et] = (p ++ [dt]) ++ [et] := by simp
    have hnd : ∀ x ∈ p ++ [dt], tK x ≠ 0 := by
      intro x hx
      rcases List.mem_append.1 hx with hx | hx
      · exact h2 x hx
      · simp only [List.mem_cons, List.not_mem_nil, or_false] at hx; rw [hx, kd]; decide
    have hcnt := run_dots (f := 15) (.inr rfl) (bad := (0, 0)) (e := et) ke (p ++ [dt]) 15 0 0 0 [] hnd (by unfold Rch; decide) (by rw [← hsp]; exact hchk)
    rw [show depS 15 = 0 by decide, ← hsp] at hcnt
    have hc1 : (p ++ [dt]).countP (fun x => decide (tK x = 8)) = p.countP (fun x => decide (tK x = 8)) + 1 := by rw [List.countP_append]; simp [kd]
    rw [hv, t1, List.length_map, sentF, List.length_dropLast, hcnt, hc1] at hlen
    have h8 : ∀ x ∈ p, tK x ≠ 8 := by
      have : p.countP (fun x => decide (tK x = 8)) = 0 := by omega
      intro x hx q
      have := (List.countP_eq_zero.1 this) x hx
      simp [q] at this
    -- so it is a fact
    have hback : chkF 20 (0, 0) 20 0 0 0 (p ++ [endT src.length]) = (0, 0) := by
      cases p with
      | nil =>
        rw [List.nil_append, chkF, kd] at hchk
        rw [if_pos (by decide)] at hchk
        exact absurd (congrArg Prod.fst hchk) (refuse_ne dt)
      | cons x p =>
        have hx := h2 x (by simp)
        rw [List.cons_append, chkF] at hchk
        split at hchk
        · exact absurd (congrArg Prod.fst hchk) (refuse_ne x)
        rename_i q1
        split at hchk
        · rename_i q2; exact absurd (congrArg Prod.fst hchk) q2
        rename_i q2
        have hx1 : tK x = 1 := by
          refine Classical.byContradiction fun q => q1 ?_
          unfold moveF
          simp only [Int.reduceEq, if_false, if_true, if_neg q, if_neg hx]
        rw [hx1] at hchk q2
        have := ta_run (e := endT src.length) (d := dt) (e' := et) rfl kd ke p _ _ _ _ (tkC 20 1 0) (fun y hy => ⟨h2 y (List.mem_cons_of_mem _ hy), h8 y (List.mem_cons_of_mem _ hy)⟩) (by decide) hchk
        rw [List.cons_append, chk_on (n := 21) (c' := tkC 20 1 0) (l' := tkL 15 1 0) (t' := tkT 15 1 0) (by rw [hx1]; decide) (by decide) (by rw [hx1]) (by rw [hx1]; decide) (by rw [hx1]; decide) (by decide)]
        exact this
    have hf20 : fltF 20 src = (0, 0) := by
      unfold fltF badF; rw [if_neg (by omega), scanF_is hlS, h1]; exact hback
    obtain ⟨a2, b1, -⟩ := fwd hf20
    rw [ho] at b1; cases b1
end Edict
