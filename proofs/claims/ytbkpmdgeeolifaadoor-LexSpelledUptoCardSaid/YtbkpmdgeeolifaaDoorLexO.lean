/- The plain laws of Scan: of texts cut off, put together, laid on. -/
import Derived.Test.YtbkpmdgeeolifaaDoorLexN
namespace Edict
theorem gap_tok {s : List UInt8} {o : Nat} {t : Tok} (ho : o < s.length) (h : tokF s o = .ok t) : gapF s o = (o, true) := gap_at (tok_first ho h)
/-- A token found in one text is found in another that begins likewise. -/
theorem next_pre {s t : List UInt8} {k : Nat} {c : Int} {v : List UInt8} {n p : Int} {o e : Nat} (hk : k ≤ s.length) (h : nextF s k = .ok (c, v, n, p, (o : Int), (e : Int))) (hc : c ≠ 0) (ha : Ag s t 0 0 e) (hf : Fol s t o o (e - o)) : nextF t k = .ok (c, v, n, p, (o : Int), (e : Int)) := by
  obtain ⟨h1, h2⟩ := next_at hk h
  have hge := gap_ge (s := s) (k := k)
  have hle := gap_le hk
  rw [h1] at hge hle
  simp only at hge hle
  obtain ⟨c', v', n', p', e', k1, k2, k3, k4⟩ := tok_ok hle h2
  simp only [Prod.mk.injEq] at k1
  obtain ⟨rfl, rfl, rfl, rfl, -, k5⟩ := k1
  have hee : e' = e := by omega
  subst hee
  have hoe := k4 hc
  have hag : Ag s t k k (o - k) := by have := ha.sub (i := k) (m := o - k) (by omega); simpa using this
  have hao : Ag s t o o (e' - o) := by have := ha.sub (i := o) (m := e' - o) (by omega); simpa using this
  have hg := gap_skip h1 hk hag (.inl (by omega))
  rw [show k + (o - k) = o by omega] at hg
  have hto := tok_loc h2 hc hao hf
  rw [show o + (e' - o) = e' by omega] at hto
  have hol : o < t.length := by have := ha.2.1; omega
  unfold nextF
  rw [hg, gap_tok hol hto]
  exact hto
theorem ag_take {s : List UInt8} {m e : Nat} (he : e ≤ m) (hm : m ≤ s.length) : Ag s (s.take m) 0 0 e :=
  ⟨by omega, by simp; omega, fun i hi => by
    have := bat_sub (s := s) (k := 0) (i := i) hm (by omega)
    simpa using this.symm⟩
theorem fol_take {s : List UInt8} {m o e : Nat} (hoe : o ≤ e) (he : e ≤ m) (hm : m ≤ s.length) : Fol s (s.take m) o o (e - o) := by
  have hl : (s.take m).length = m := by simp; omega
  unfold Fol
  rw [show o + (e - o) = e by omega, hl]
  by_cases h : e = m
  · exact .inl h
  · have := bat_sub (s := s) (k := 0) (i := e) hm (by omega)
    exact .inr (.inr ⟨by omega, by omega, by simpa using this⟩)
/-- Where the fault's gap begins; and the tokens of the text cut off behind that. -/
theorem scan_cut {s : List UInt8} : ∀ {l : List Tok} {k : Nat} {c : Int} {p : Nat}, k ≤ s.length → c ≠ 0 → scanK s k = (l, c, p) →
    ∃ k', k ≤ k' ∧ k' ≤ s.length ∧ nextF s k' = .bad c p ∧ ∀ m, k' ≤ m → m ≤ s.length → scanK (s.take m) k = (l ++ (scanK (s.take m) k').1, (scanK (s.take m) k').2)
  | [], k, c, p, hk, hc, h => ⟨k, Nat.le_refl _, hk, scan_nil h, fun m _ _ => rfl⟩
  | t :: l, k, c, p, hk, hc, h => by
    obtain ⟨h1, ⟨h2, -, h3⟩ | ⟨h2, h3⟩⟩ := scan_cons hk h
    · cases h3; exact absurd rfl hc
    obtain ⟨c', v, n, q, o, e, rfl, r1, r2, r3, r4⟩ := next_ok hk h1
    simp only at h2
    rw [Int.toNat_natCast] at h3
    have hoe := r4 h2
    obtain ⟨k', g1, g2, g3, g4⟩ := scan_cut (k := e) r2 hc h3
    refine ⟨k', by omega, g2, g3, fun m hm1 hm2 => ?_⟩
    have hl : (s.take m).length = m := by simp; omega
    have hn := next_pre (t := s.take m) hk h1 h2 (ag_take (by omega) hm2) (fol_take (by omega) (by omega) hm2)
    rw [scanK_on (by omega) hn h2]
    simp only [Int.toNat_natCast]
    rw [g4 m hm1 hm2]
    rfl
theorem tok_end {s : List UInt8} {o : Nat} (h : s.length ≤ o) : tokF s o = .ok (endT o) := by unfold tokF; rw [if_pos h]; rfl
theorem next_end {s : List UInt8} {k : Nat} (h : gapF s k = (s.length, true)) : scanK s k = ([endT s.length], 0, 0) := by
  have hn : nextF s k = .ok (endT s.length) := by unfold nextF; rw [h]; exact tok_end (Nat.le_refl _)
  exact scanK_end hn rfl
/-- Cut off where its gap ends, a text ends there. -/
theorem cut_end {s : List UInt8} {k p : Nat} {b : Bool} (hk : k ≤ s.length) (h : gapF s k = (p, b)) : scanK (s.take p) k = ([endT p], 0, 0) := by
  have hge := gap_ge (s := s) (k := k)
  have hle := gap_le hk
  rw [h] at hge hle
  simp only at hge hle
  have hl : (s.take p).length = p := by simp; omega
  have hag : Ag s (s.take p) k k (p - k) := by have := (ag_take (s := s) (m := p) (e := p) (Nat.le_refl _) hle).sub (i := k) (m := p - k) (by omega); simpa using this
  have hg := gap_skip h hk hag (.inr (.inl (by omega)))
  rw [show k + (p - k) = p by omega, gap_end (k := p) (by omega)] at hg
  have := next_end (s := s.take p) (k := k) (by rw [hl]; exact hg)
  rwa [hl] at this
theorem txt_cut {s : List UInt8} {o p i : Nat} {acc : List UInt8} (hi : i ≤ p) (hp : p < s.length) (h : txtF s o i acc = .bad 12 p) : txtF (s.take p) o i acc = .bad 11 o := by
  have hl : (s.take p).length = p := by simp; omega
  by_cases hip : i = p
  · rw [txtF, if_neg (by omega)]
  have hb : ∀ j, j < p → bat (s.take p) j = bat s j := fun j hj => by
    have := bat_sub (s := s) (k := 0) (i := j) (Nat.le_of_lt hp) (by omega)
    simpa using this
  by_cases h32 : 32 ≤ bat s i
  case neg => rw [txtF, if_neg (fun q => h32 q.2)] at h; cases h
  rw [txtF, if_pos ⟨by omega, h32⟩] at h
  rw [txtF, hb i (by omega), if_pos ⟨by omega, h32⟩]
  by_cases h34 : bat s i = 34
  · rw [if_pos h34] at h; cases h
  rw [if_neg h34] at h ⊢
  by_cases h92 : bat s i = 92
  · rw [if_pos h92] at h ⊢
    by_cases hn : (escF s i).2 = 0
    · rw [if_pos hn] at h; cases h; exact absurd rfl hip
    rw [if_neg hn] at h
    by_cases hac : acc.length = 255
    · rw [if_pos hac] at h; cases h
    rw [if_neg hac] at h
    have hip2 : i + (escF s i).2 ≤ p := by
      rcases txt_bad h with k | k | k
      · exact absurd k.1 (by decide)
      · exact absurd k.1 (by decide)
      · exact k.2.1
    have he := esc_loc (t := s.take p) (j := i) hn (fun k hk => (hb _ (by omega)).symm)
    rw [he, if_neg hn, if_neg hac]
    exact txt_cut hip2 hp h
  · rw [if_neg h92] at h ⊢
    by_cases hac : acc.length = 255
    · rw [if_pos hac] at h; cases h
    rw [if_neg hac] at h ⊢
    exact txt_cut (by omega) hp h
termination_by s.length - i
decreasing_by
  · have := esc_len s i; omega
  · omega
theorem scanF_K {s : List UInt8} (h : s.length ≤ 65536) : scanF s = scanK s 0 := by unfold scanF scanK; rw [if_neg (by omega)]
/-- LexFirst: cut off at its fault, a text has the same tokens and no fault. -/
theorem first_cut {s : List UInt8} {L : List Tok} {c : Int} {p : Nat} (hl : s.length ≤ 65536) (hc : c ≠ 0) (h : scanF s = (L, c, p)) :
    p < s.length ∧ (c ≠ 12 → scanF (s.take p) = (L ++ [endT p], 0, 0)) ∧ (c = 12 → ∃ g, g < p ∧ scanF (s.take p) = (L, 11, g) ∧ scanF (s.take g) = (L ++ [endT g], 0, 0)) := by
  rw [scanF_K hl] at h
  obtain ⟨k, h1, h2, h3, h4⟩ := scan_cut (Nat.zero_le _) hc h
  obtain ⟨n1, n2, n3, n4, n5, n6, n7⟩ := next_bad h2 h3
  have hs : ∀ m, scanF (s.take m) = scanK (s.take m) 0 := fun m => scanF_K (by rw [List.length_take]; omega)
  refine ⟨n4, fun h12 => ?_, fun h12 => ?_⟩
  · have hg : ∃ b, gapF s k = (p, b) := by
      by_cases h16 : c = 16
      · exact ⟨_, n5 h16⟩
      · exact ⟨_, n6 h16 h12⟩
    obtain ⟨b, hg⟩ := hg
    rw [hs, h4 p n3 (by omega), cut_end h2 hg]
  · subst h12
    obtain ⟨g, g1, g2, g3, g4⟩ := n7 rfl
    have hge := gap_ge (s := s) (k := k)
    rw [g1] at hge
    simp only at hge
    refine ⟨g, g2, ?_, ?_⟩
    · have hl' : (s.take p).length = p := by simp; omega
      have hb : ∀ j, j < p → bat (s.take p) j = bat s j := fun j hj => by
        have := bat_sub (s := s) (k := 0) (i := j) (Nat.le_of_lt n4) (by omega)
        simpa using this
      have hag : Ag s (s.take p) k k (g - k) := by have := (ag_take (s := s) (m := p) (e := p) (Nat.le_refl _) (by omega)).sub (i := k) (m := g - k) (by omega); simpa using this
      have hg := gap_skip g1 h2 hag (.inl (by omega))
      rw [show k + (g - k) = g by omega, gap_at (o := g) (by rw [hb g g2, g3]; decide)] at hg
      have hn : nextF (s.take p) k = .bad 11 g := by
        unfold nextF
        rw [hg]
        simp only [if_true]
        unfold tokF
        rw [if_neg (by omega), hb g g2, g3, if_neg (by decide), if_neg (fun q => absurd q.1 (by decide)), if_neg (by decide), if_pos rfl]
        exact txt_cut (by omega) n4 g4
      rw [hs, h4 p n3 (by omega), scanK_bad hn, List.append_nil]
    · rw [hs, h4 g hge (by omega), cut_end h2 g1]
/-- LexAlone: a token's spelling, alone. -/
theorem alone_cut {s : List UInt8} {c : Int} {v : List UInt8} {n p : Int} {o e : Nat} (hl : s.length ≤ 65536) (h : tokF s o = .ok (c, v, n, p, (o : Int), (e : Int))) (hc : c ≠ 0) (hoe : o < e) (he : e ≤ s.length) :
    scanF ((s.take e).drop o) = ([(c, v, n, p, 0, ((e - o : Nat) : Int)), endT (e - o)], 0, 0) := by
  obtain ⟨t, ht⟩ : ∃ t, t = (s.take e).drop o := ⟨_, rfl⟩
  have hlt : t.length = e - o := by rw [ht]; simp; omega
  have ha : Ag s t o 0 (e - o) := by rw [ht]; exact ag_sub (by omega) he
  have hto := tok_loc (b := 0) h hc ha (.inl (by omega))
  rw [← ht, scanF_K (by omega)]
  have hg := gap_tok (by omega) hto
  have hn : nextF t 0 = .ok (c, v, n, p, ((0 : Nat) : Int), ((0 + (e - o) : Nat) : Int)) := by unfold nextF; rw [hg]; exact hto
  rw [scanK_on (Nat.zero_le _) hn hc]
  simp only [Int.toNat_natCast]
  have := next_end (s := t) (k := 0 + (e - o)) (by rw [gap_end (by omega), hlt, Nat.zero_add])
  rw [this, hlt, Nat.zero_add]
  rfl
/-- LexNothing: Blank is to have no token and no fault. -/
theorem idle_iff {s : List UInt8} : blankF s 0 s.length = decide ((scanF s).2.1 = 0 ∧ (scanF s).1.length = 1) := by
  by_cases hl : s.length ≤ 65536
  case neg =>
    unfold blankF scanF
    rw [if_pos (by omega), decide_eq_false (by omega), Bool.false_and]
    simp
  rw [scanF_K hl]
  have hb : blankF s 0 s.length = decide (gapF s 0 = (s.length, true)) := by
    have e : ((s.take s.length).drop (0 : Nat)) = s := by simp
    unfold blankF
    simp only [Int.toNat_natCast, Int.toNat_zero, e]
    rw [decide_eq_true (⟨hl, by omega, by omega, by omega⟩), Bool.true_and]
  rw [hb]
  apply decide_eq_decide.2
  constructor
  · intro h
    rw [next_end h]
    exact ⟨rfl, rfl⟩
  · rintro ⟨h1, h2⟩
    cases hs : scanK s 0 with
    | mk L f =>
      obtain ⟨c, p⟩ := f
      rw [hs] at h1 h2
      simp only at h1 h2
      subst h1
      rcases scan_shape (Nat.zero_le _) hs with q | ⟨-, rfl, r, rfl, hr⟩
      · exact absurd rfl q.1
      · have : r = [] := by cases r with | nil => rfl | cons a b => simp at h2
        subst this
        obtain ⟨k1, -⟩ := scan_cons (Nat.zero_le _) hs
        exact (next_at (Nat.zero_le _) k1).1
theorem blank_ends {s t : List UInt8} {b : Nat} (h : gapF s 0 = (s.length, true)) (ha : Ag s t 0 b s.length) (hc : b + s.length = t.length ∨ bat t (b + s.length) = 10) : gapF t b = gapF t (b + s.length) := by
  have := gap_skip (b := b) h (Nat.zero_le _) (by simpa using ha) (.inr (by simpa using hc))
  simpa using this
theorem nothing_ends {s : List UInt8} (hl : 2 * s.length + 3 ≤ 65536) (h : gapF s 0 = (s.length, true)) :
    scanF (s ++ [10, 97, 10] ++ s) = ([(1, [97], 0, 0, ((s.length + 1 : Nat) : Int), ((s.length + 2 : Nat) : Int)), endT (s ++ [10, 97, 10] ++ s).length], 0, 0) := by
  obtain ⟨t, ht⟩ : ∃ t, t = s ++ [10, 97, 10] ++ s := ⟨_, rfl⟩
  have hlt : t.length = 2 * s.length + 3 := by rw [ht]; simp; omega
  have hb : ∀ i, i < s.length → bat t i = bat s i := fun i hi => by
    rw [ht]; unfold bat
    rw [List.getD_eq_getElem?_getD, List.getD_eq_getElem?_getD, List.append_assoc, List.getElem?_append_left hi]
  have hb2 : ∀ i, bat t (s.length + 3 + i) = bat s i := fun i => by
    rw [ht]; unfold bat
    rw [List.getD_eq_getElem?_getD, List.getD_eq_getElem?_getD, List.getElem?_append_right (by simp)]
    congr 3; simp
  have hm : ∀ i, i < 3 → bat t (s.length + i) = bat [10, 97, 10] i := fun i hi => by
    rw [ht]; unfold bat
    rw [List.getD_eq_getElem?_getD, List.getD_eq_getElem?_getD, List.append_assoc, List.getElem?_append_right (by omega), List.getElem?_append_left (by simp; omega)]
    congr 3; omega
  have m0 : bat t s.length = 10 := hm 0 (by omega)
  have m1 : bat t (s.length + 1) = 97 := hm 1 (by omega)
  have m2 : bat t (s.length + 2) = 10 := hm 2 (by omega)
  rw [← ht, scanF_K (by omega)]
  have g1 : gapF t 0 = (s.length + 1, true) := by
    have := blank_ends (t := t) (b := 0) h ⟨by omega, by omega, fun i hi => by simp [hb i hi]⟩ (.inr (by simpa using m0))
    rw [Nat.zero_add] at this
    rw [this, gap_bl (by omega) (by rw [m0]; decide), gap_at (by rw [m1]; decide)]
  have hr : runF t (s.length + 1) = s.length + 2 := by
    rw [runF_on (by omega) (by rw [m1]; decide), runF_stop (by rw [m2]; intro q; exact absurd q.2 (by decide))]
  have hsub : sub t (s.length + 1) (s.length + 2) = [97] := by
    apply List.ext_getElem?
    intro i
    unfold sub
    rw [List.getElem?_drop, List.getElem?_take]
    by_cases hi : i = 0
    · subst hi
      rw [if_pos (by omega), get_bat (by omega), Nat.add_zero, m1]; rfl
    · rw [if_neg (by omega), List.getElem?_eq_none (by simp; omega)]
  have hn : nextF t 0 = .ok (1, [97], 0, 0, ((s.length + 1 : Nat) : Int), ((s.length + 2 : Nat) : Int)) := by
    unfold nextF
    rw [g1]
    simp only [if_true]
    unfold tokF
    rw [if_neg (by omega), m1, if_neg (by decide), if_neg (fun q => absurd q.1 (by decide)), if_pos (by decide)]
    unfold wordF
    rw [hr, hsub, m1, if_neg (by omega)]
    rfl
  rw [scanK_on (Nat.zero_le _) hn (show (1 : Int) ≠ 0 by decide)]
  simp only [Int.toNat_natCast]
  have g2 : gapF t (s.length + 2) = (t.length, true) := by
    rw [gap_bl (by omega) (by rw [m2]; decide)]
    have := blank_ends (t := t) (b := s.length + 3) h ⟨by omega, by omega, fun i hi => by rw [hb2]; simp⟩ (.inl (by omega))
    rw [this, gap_end (by omega)]
    congr 1; omega
  rw [next_end g2]
end Edict
