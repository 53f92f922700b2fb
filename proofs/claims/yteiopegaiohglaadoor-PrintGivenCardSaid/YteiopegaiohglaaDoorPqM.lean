/- The maker of texts: what it lays, in plain terms, and that a text that it made has just the tokens that it laid. -/
import Derived.Test.YteiopegaiohglaaDoorPqL
import Derived.KernelRfl
namespace Edict
open Go
open Go.Lib (decDigits)
abbrev TT := Int × Int
abbrev AA := Int × List TT
abbrev LL := Int × AA × Int × TT × TT
abbrev CC := AA × List LL
def gapB (g : Int) : List UInt8 :=
  if g % 8 = 1 then [32] else if g % 8 = 2 then [10] else if g % 8 = 3 then [9, 32, 13, 10]
  else if g % 8 = 4 then [37, 32, 112, 40, 88, 41, 32, 58, 45, 32, 113, 46, 32, 34, 32, 47, 42, 10]
  else if g % 8 = 5 then [47, 42, 32, 97, 46, 32, 47, 42, 32, 37, 32, 42, 47, 32, 34, 32, 42, 47] else []
def gapK (gs : List Int) (k : Nat) : List UInt8 := if gs.length = 0 then [] else gapB (gs.getD (k % gs.length) 0)
def nxtK (gs : List Int) (k : Nat) : Nat := if gs.length = 0 then k else k + 1
theorem gapB_ok (g : Int) : gapF (gapB g ++ [40]) 0 = ((gapB g).length, true) := by
  unfold gapB
  repeat' split
  all_goals kernel_rfl
theorem gapB_len (g : Int) : (gapB g).length ≤ 18 := by
  unfold gapB
  repeat' split
  all_goals decide
theorem gapB_0 (g : Int) (h : gapB g ≠ []) : wdB (bat (gapB g) 0) = false ∧ bat (gapB g) 0 ≠ 61 := by
  revert h
  unfold gapB
  repeat' split
  all_goals decide
theorem gapK_ok (gs : List Int) (k : Nat) : gapF (gapK gs k ++ [40]) 0 = ((gapK gs k).length, true) := by
  unfold gapK
  split
  · kernel_rfl
  · exact gapB_ok _
theorem gapK_len (gs : List Int) (k : Nat) : (gapK gs k).length ≤ 18 := by
  unfold gapK
  split
  · exact Nat.zero_le _
  · exact gapB_len _
theorem gapK_0 (gs : List Int) (k : Nat) (h : gapK gs k ≠ []) : wdB (bat (gapK gs k) 0) = false ∧ bat (gapK gs k) 0 ≠ 61 := by
  revert h
  unfold gapK
  split
  · intro h; exact absurd rfl h
  · exact gapB_0 _
/-! ### Texts laid token by token -/
def Lays (x : List UInt8) (W : List Tok) : Prop := scanK x 0 = (W ++ [endT x.length], 0, 0) ∧ (∀ t ∈ W, t.1 ≠ 0) ∧ (lastE 0 W = x.length ∨ (lastE 0 W + 1 = x.length ∧ bat x (lastE 0 W) = 32))
def lastB (x : List UInt8) : Nat := bat x (x.length - 1)
def JoinOk (x s : List UInt8) : Prop := (wdB (lastB x) = true → wdB (bat s 0) = false) ∧ (lastB x = 60 ∨ lastB x = 62 → bat s 0 ≠ 61)
theorem join_word {x s : List UInt8} (h : wdB (lastB x) = false) (h2 : bat s 0 ≠ 61) : JoinOk x s := ⟨fun q => (by rw [h] at q; cases q), fun _ => h2⟩
theorem join_sign {x s : List UInt8} (h : wdB (bat s 0) = false) (h2 : bat s 0 ≠ 61) : JoinOk x s := ⟨fun _ => h, fun _ => h2⟩
theorem join_op {x s : List UInt8} (h : wdB (bat s 0) = false) (h2 : lastB x ≠ 60 ∧ lastB x ≠ 62) : JoinOk x s := ⟨fun _ => h, fun q => by omega⟩
theorem lastB_app {x s : List UInt8} (h : s ≠ []) : lastB (x ++ s) = lastB s := by
  have : 0 < s.length := List.length_pos_iff.2 h
  unfold lastB
  rw [List.length_append, show x.length + s.length - 1 = x.length + (s.length - 1) by omega, bat_appR]
theorem scanK_nil0 : scanK [] 0 = ([endT 0], 0, 0) := next_end (s := []) (gap_end (Nat.le_refl _))
theorem lays_nil : Lays [] [] := by
  exact ⟨scanK_nil0, fun t ht => (by cases ht), .inl rfl⟩
theorem lastE_snoc (k : Nat) (l : List Tok) (t : Tok) : lastE k (l ++ [t]) = eN t := by unfold lastE; simp
theorem tok_pos {s : List UInt8} {c : Int} {v : List UInt8} {n p o e : Int} (h : tokF s 0 = .ok (c, v, n, p, o, e)) (hc : c ≠ 0) : 0 < s.length := by
  apply Decidable.byContradiction; intro q
  unfold tokF at h
  rw [if_pos (by omega)] at h
  simp only [TR.ok.injEq, Prod.mk.injEq] at h
  exact hc h.1.symm
/-- The blank behind the last token is no bar. -/
theorem lays_gap {x X : List UInt8} {W : List Tok} (h : Lays x W) (hx : ∀ i, i < x.length → bat X i = bat x i) (hl : x.length ≤ X.length) : gapF X (lastE 0 W) = gapF X x.length := by
  rcases h.2.2 with q | ⟨q1, q2⟩
  · rw [q]
  · rw [gap_bl (by omega) (by rw [hx _ (by omega), q2]; rfl), q1]
theorem lastE_le {x : List UInt8} {W : List Tok} (h : Lays x W) : lastE 0 W ≤ x.length := by rcases h.2.2 with q | q <;> omega
/-- One token more. -/
theorem lays_put {x g s : List UInt8} {W : List Tok} {c : Int} {v : List UInt8} {n p : Int} (h : Lays x W) (hgg : gapF (g ++ [40]) 0 = (g.length, true)) (hg0 : g ≠ [] → wdB (bat g 0) = false ∧ bat g 0 ≠ 61) (hj : JoinOk x s)
    (hs : tokF s 0 = .ok (c, v, n, p, 0, (s.length : Int))) (hc : c ≠ 0) :
    Lays (x ++ g ++ s) (W ++ [(c, v, n, p, ((x ++ g).length : Int), ((x ++ g ++ s).length : Int))]) ∧ lastE 0 (W ++ [(c, v, n, p, ((x ++ g).length : Int), ((x ++ g ++ s).length : Int))]) = (x ++ g ++ s).length ∧ lastB (x ++ g ++ s) = lastB s := by
  have hs0 := tok_pos hs hc
  have hsne : s ≠ [] := List.length_pos_iff.1 hs0
  have hle : lastE 0 (W ++ [(c, v, n, p, ((x ++ g).length : Int), ((x ++ g ++ s).length : Int))]) = (x ++ g ++ s).length := by rw [lastE_snoc]; simp only [eN, Int.toNat_natCast]
  refine ⟨⟨?_, fun t ht => ?_, .inl hle⟩, hle, lastB_app hsne⟩
  · obtain ⟨X, hX⟩ : ∃ X, X = x ++ g ++ s := ⟨_, rfl⟩
    rw [← hX]
    have hxl : X.length = x.length + g.length + s.length := by rw [hX]; simp; omega
    have hb1 : ∀ i, i < x.length → bat X i = bat x i := fun i hi => by rw [hX, List.append_assoc, bat_app hi]
    have hb2 : ∀ i, i < g.length → bat X (x.length + i) = bat g i := fun i hi => by rw [hX, List.append_assoc, bat_appR, bat_app hi]
    have hb3 : ∀ i, bat X (x.length + g.length + i) = bat s i := fun i => by
      have := bat_appR (s := x ++ g) (t := s) (i := i)
      rw [List.length_append] at this
      rw [hX, this]
    have hkeep : scanK X 0 = (W ++ (scanK X (lastE 0 W)).1, (scanK X (lastE 0 W)).2) := by
      by_cases hx0 : x.length = 0
      · have h0 : x = [] := List.length_eq_zero_iff.1 hx0
        have hW : W = [] := by
          have h1 := h.1
          rw [h0, scanK_nil0] at h1
          have h2 : W.length = 0 := by have := congrArg (fun q => q.1.length) h1; simp at this; simpa using this
          exact List.length_eq_zero_iff.1 h2
        rw [hW]; rfl
      · refine (put_keep hb1 (by omega) ?_ (Nat.zero_le _) h.2.1 h.1).2
        rw [hb1 _ (by omega)]
        by_cases hg : g = []
        · have e0 : bat X x.length = bat s 0 := by have := hb3 0; rw [hg] at this; simpa using this
          rw [e0]; exact hj
        · have e0 : bat X x.length = bat g 0 := by have := hb2 0 (List.length_pos_iff.2 hg); simpa using this
          rw [e0]
          obtain ⟨g1, g2⟩ := hg0 hg
          exact ⟨fun _ => g1, fun _ => g2⟩
    have hga := gap_fixed (x := X) (b := x.length) hgg (fun i hi => hb2 i hi) (by omega)
    have hto := tok_loc2 (t := X) (b := x.length + g.length) (e := s.length) (a := 0) hs hc ⟨by omega, by omega, fun i hi => by rw [Nat.zero_add, hb3]⟩ (.inl (by omega))
    rw [Nat.sub_zero, show x.length + g.length + s.length = X.length by omega] at hto
    have hn : nextF X (lastE 0 W) = .ok (c, v, n, p, ((x.length + g.length : Nat) : Int), (X.length : Int)) := by
      unfold nextF
      rw [lays_gap h hb1 (by omega), hga, gap_tok (by omega) hto]
      exact hto
    rw [hkeep, scanK_on (by have := lastE_le h; omega) hn hc]
    simp only [Int.toNat_natCast]
    rw [next_end (gap_end (Nat.le_refl _)), List.append_assoc, List.length_append]
    rfl
  · rcases List.mem_append.1 ht with ht | ht
    · exact h.2.1 t ht
    · simp only [List.mem_singleton] at ht
      rw [ht]; exact hc
/-- A blank behind the last token. -/
theorem lays_blank {x : List UInt8} {W : List Tok} (h : Lays x W) (hx : 0 < x.length) (hl : lastE 0 W = x.length) : Lays (x ++ [32]) W ∧ lastB (x ++ [32]) = 32 := by
  have hb1 : ∀ i, i < x.length → bat (x ++ [32]) i = bat x i := fun i hi => bat_app hi
  have hb2 : bat (x ++ [32]) x.length = 32 := bat_appR (s := x) (t := [32]) (i := 0)
  refine ⟨⟨?_, h.2.1, .inr ⟨by rw [hl]; simp, by rw [hl]; exact hb2⟩⟩, lastB_app (by simp)⟩
  have hk := (put_keep hb1 (by simp) (by rw [hb2]; exact ⟨fun _ => rfl, fun _ => by decide⟩) (Nat.zero_le _) h.2.1 h.1).2
  rw [hl] at hk
  rw [hk, next_end (by rw [gap_bl (by simp) (by rw [hb2]; rfl), gap_end (s := x ++ [32]) (k := x.length + 1) (by simp)]; simp)]
/-- The text's end behind a gap. -/
theorem lays_end {x g : List UInt8} {W : List Tok} (h : Lays x W) (hgg : gapF (g ++ [40]) 0 = (g.length, true)) (hg0 : g ≠ [] → wdB (bat g 0) = false ∧ bat g 0 ≠ 61) : scanK (x ++ g) 0 = (W ++ [endT (x ++ g).length], 0, 0) := by
  by_cases hg : g = []
  · rw [hg, List.append_nil]; exact h.1
  have hgl := List.length_pos_iff.2 hg
  have hb1 : ∀ i, i < x.length → bat (x ++ g) i = bat x i := fun i hi => bat_app hi
  have hb2 : ∀ i, i < g.length → bat (x ++ g) (x.length + i) = bat g i := fun i _ => bat_appR
  have hga := gap_fixed (x := x ++ g) (b := x.length) hgg hb2 (by simp)
  have hend : gapF (x ++ g) (lastE 0 W) = ((x ++ g).length, true) := by
    rw [lays_gap h hb1 (by simp), hga]
    have := gap_end (s := x ++ g) (k := x.length + g.length) (by simp)
    rw [this, List.length_append]
  have hkeep : scanK (x ++ g) 0 = (W ++ (scanK (x ++ g) (lastE 0 W)).1, (scanK (x ++ g) (lastE 0 W)).2) := by
    by_cases hx0 : x.length = 0
    · have h0 : x = [] := List.length_eq_zero_iff.1 hx0
      have hW : W = [] := by
        have h1 := h.1
        rw [h0, scanK_nil0] at h1
        have h2 : W.length = 0 := by have := congrArg (fun q => q.1.length) h1; simp at this; simpa using this
        exact List.length_eq_zero_iff.1 h2
      rw [hW]; rfl
    · refine (put_keep hb1 (by simp; omega) ?_ (Nat.zero_le _) h.2.1 h.1).2
      have e0 : bat (x ++ g) x.length = bat g 0 := by have := hb2 0 hgl; simpa using this
      rw [e0]
      obtain ⟨g1, g2⟩ := hg0 hg
      exact ⟨fun _ => g1, fun _ => g2⟩
  rw [hkeep, next_end hend]
end Edict
