/- The document's answer, walked: take, over, term. -/
import Derived.Test.YtmnfhmbmifompaaGreatDoorPrM
namespace Go.Proofs.YtmnfhmbmifompaaGreatDoor
open Go Go.Ev Edict
def cntV (c l t : Nat) : Value := .agg #[.int .i64 c, .int .i64 l, .int .i64 t]
def C_rTake (vs : List Value) (h : H) (K : Value → H → Prop) : Prop := ∃ (u : U) (c l t : Nat) (s k : Int), vs = [cntV c l t, .int .i64 s, .int .i64 k] ∧ c ≤ 70000 ∧ l ≤ 70000 ∧ t ≤ 70000 ∧ ∀ u' h', Step S0 u h u' h' → K (cntV (tkC s k c) (tkL s k l) (tkT s k t)) h'
theorem rpTake_ok {vs : List Value} {h : H} {K : Value → H → Prop} {KP : List PanicEntry → H → Prop} (hC : C_rTake vs h K) : HCX Tryz.prog 32 vs h K KP := by
  obtain ⟨u, c, l, t, s, k, rfl, hc, hl, ht, hK⟩ := hC
  refine rpTake_H (fun _ _ _ _ _ => False) (fun _ _ _ _ _ h => h.elim) _ _ _ ?_
  simp only [cntV] at hK ⊢
  by_cases h0 : (s = 0 ∨ s = 15) ∧ k = 1
  · have e1 : tkC s k c = c + 1 := by unfold tkC; rw [if_pos h0]
    have e2 : tkL s k l = l := by unfold tkL; rw [if_neg (by omega), if_neg (by omega)]
    have e3 : tkT s k t = t := by unfold tkT; rw [if_neg (by omega), if_neg (by omega)]
    rw [e1, e2, e3] at hK
    obtain ⟨rfl | rfl, rfl⟩ := h0
    · simp (disch := first | omega | (simp only [e_ssz, e_psz, e_hszs, List.length_cons, List.length_nil]; try omega; done)) only [↓reduceIte, go_sem, rpTake_S, rpTake_E]
      exact hK _ _ (Step.refl _ _ _).pushR.pushR
    · simp (disch := first | omega | (simp only [e_ssz, e_psz, e_hszs, List.length_cons, List.length_nil]; try omega; done)) only [↓reduceIte, go_sem, rpTake_S, rpTake_E]
      exact hK _ _ (Step.refl _ _ _).pushR.pushR
  have e1 : tkC s k c = c := by unfold tkC; rw [if_neg h0]
  rw [e1] at hK
  have n0 : s = 0 → ¬ k = 1 := fun a b => h0 ⟨.inl a, b⟩
  have n15 : s = 15 → ¬ k = 1 := fun a b => h0 ⟨.inr a, b⟩
  by_cases h5 : s = 5
  · subst h5
    have e3 : tkT 5 k t = if k = 5 then 0 else t := by simp [tkT]
    have e2 : tkL 5 k l = if k = 9 then 0 else l + 1 := by simp [tkL]
    rw [e2, e3] at hK
    by_cases k5 : k = 5
    · subst k5
      simp (disch := first | omega | (simp only [e_ssz, e_psz, e_hszs, List.length_cons, List.length_nil]; try omega; done)) only [↓reduceIte, go_sem, rpTake_S, rpTake_E]
      exact hK _ _ (Step.refl _ _ _).pushR.pushR
    by_cases k9 : k = 9
    · subst k9
      simp (disch := first | omega | (simp only [e_ssz, e_psz, e_hszs, List.length_cons, List.length_nil]; try omega; done)) only [↓reduceIte, go_sem, rpTake_S, rpTake_E]
      exact hK _ _ (Step.refl _ _ _).pushR.pushR
    rw [if_neg k5, if_neg k9] at hK
    simp (disch := first | omega | (simp only [e_ssz, e_psz, e_hszs, List.length_cons, List.length_nil]; try omega; done)) only [↓reduceIte, go_sem, rpTake_S, rpTake_E, eq_false k5, eq_false k9]
    exact hK _ _ (Step.refl _ _ _).pushR.pushR
  have e2 : tkL s k l = if k = 9 then 0 else l := by simp [tkL, h5]
  rw [e2] at hK
  by_cases hs : s = 2 ∨ s = 9 ∨ s = 17 ∨ s = 22
  · have e3 : tkT s k t = if k = 5 then 0 else t + 1 := by simp [tkT, hs]
    rw [e3] at hK
    rcases hs with rfl | rfl | rfl | rfl
    all_goals
      by_cases k5 : k = 5
      · subst k5
        simp (disch := first | omega | (simp only [e_ssz, e_psz, e_hszs, List.length_cons, List.length_nil]; try omega; done)) only [↓reduceIte, go_sem, rpTake_S, rpTake_E]
        exact hK _ _ (Step.refl _ _ _).pushR.pushR
      by_cases k9 : k = 9
      · subst k9
        simp (disch := first | omega | (simp only [e_ssz, e_psz, e_hszs, List.length_cons, List.length_nil]; try omega; done)) only [↓reduceIte, go_sem, rpTake_S, rpTake_E]
        exact hK _ _ (Step.refl _ _ _).pushR.pushR
      rw [if_neg k5, if_neg k9] at hK
      simp (disch := first | omega | (simp only [e_ssz, e_psz, e_hszs, List.length_cons, List.length_nil]; try omega; done)) only [↓reduceIte, go_sem, rpTake_S, rpTake_E, eq_false k5, eq_false k9]
      exact hK _ _ (Step.refl _ _ _).pushR.pushR
  have e3 : tkT s k t = if k = 5 then 0 else t := by simp [tkT, hs]
  rw [e3] at hK
  have m2 : ¬ s = 2 := fun q => hs (.inl q)
  have m9 : ¬ s = 9 := fun q => hs (.inr (.inl q))
  have m17 : ¬ s = 17 := fun q => hs (.inr (.inr (.inl q)))
  have m22 : ¬ s = 22 := fun q => hs (.inr (.inr (.inr q)))
  by_cases k5 : k = 5
  · subst k5
    by_cases z0 : s = 0
    · subst z0
      simp (disch := first | omega | (simp only [e_ssz, e_psz, e_hszs, List.length_cons, List.length_nil]; try omega; done)) only [↓reduceIte, go_sem, rpTake_S, rpTake_E]
      exact hK _ _ (Step.refl _ _ _).pushR.pushR
    by_cases z15 : s = 15
    · subst z15
      simp (disch := first | omega | (simp only [e_ssz, e_psz, e_hszs, List.length_cons, List.length_nil]; try omega; done)) only [↓reduceIte, go_sem, rpTake_S, rpTake_E]
      exact hK _ _ (Step.refl _ _ _).pushR.pushR
    simp (disch := first | omega | (simp only [e_ssz, e_psz, e_hszs, List.length_cons, List.length_nil]; try omega; done)) only [↓reduceIte, go_sem, rpTake_S, rpTake_E, eq_false z0, eq_false z15, eq_false h5, eq_false m2, eq_false m9, eq_false m17, eq_false m22]
    exact hK _ _ (Step.refl _ _ _).pushR.pushR
  by_cases k9 : k = 9
  · subst k9
    by_cases z0 : s = 0
    · subst z0
      simp (disch := first | omega | (simp only [e_ssz, e_psz, e_hszs, List.length_cons, List.length_nil]; try omega; done)) only [↓reduceIte, go_sem, rpTake_S, rpTake_E]
      exact hK _ _ (Step.refl _ _ _).pushR.pushR
    by_cases z15 : s = 15
    · subst z15
      simp (disch := first | omega | (simp only [e_ssz, e_psz, e_hszs, List.length_cons, List.length_nil]; try omega; done)) only [↓reduceIte, go_sem, rpTake_S, rpTake_E]
      exact hK _ _ (Step.refl _ _ _).pushR.pushR
    simp (disch := first | omega | (simp only [e_ssz, e_psz, e_hszs, List.length_cons, List.length_nil]; try omega; done)) only [↓reduceIte, go_sem, rpTake_S, rpTake_E, eq_false z0, eq_false z15, eq_false h5, eq_false m2, eq_false m9, eq_false m17, eq_false m22]
    exact hK _ _ (Step.refl _ _ _).pushR.pushR
  rw [if_neg k5, if_neg k9] at hK
  by_cases z0 : s = 0
  · have k1 := n0 z0
    subst z0
    simp (disch := first | omega | (simp only [e_ssz, e_psz, e_hszs, List.length_cons, List.length_nil]; try omega; done)) only [↓reduceIte, go_sem, rpTake_S, rpTake_E, eq_false k5, eq_false k9, eq_false k1]
    exact hK _ _ (Step.refl _ _ _).pushR.pushR
  by_cases z15 : s = 15
  · have k1 := n15 z15
    subst z15
    simp (disch := first | omega | (simp only [e_ssz, e_psz, e_hszs, List.length_cons, List.length_nil]; try omega; done)) only [↓reduceIte, go_sem, rpTake_S, rpTake_E, eq_false k5, eq_false k9, eq_false k1]
    exact hK _ _ (Step.refl _ _ _).pushR.pushR
  simp (disch := first | omega | (simp only [e_ssz, e_psz, e_hszs, List.length_cons, List.length_nil]; try omega; done)) only [↓reduceIte, go_sem, rpTake_S, rpTake_E, eq_false z0, eq_false z15, eq_false h5, eq_false m2, eq_false m9, eq_false m17, eq_false m22, eq_false k5, eq_false k9]
  exact hK _ _ (Step.refl _ _ _).pushR.pushR
def C_rOver (vs : List Value) (h : H) (K : Value → H → Prop) : Prop := ∃ (u : U) (c l t : Nat) (f : Int), vs = [cntV c l t, .int .i64 f] ∧ ∀ u' h', Step S0 u h u' h' → K (.int .i64 (overF f c l t)) h'
theorem rpOver_ok {vs : List Value} {h : H} {K : Value → H → Prop} {KP : List PanicEntry → H → Prop} (hC : C_rOver vs h K) : HCX Tryz.prog 33 vs h K KP := by
  obtain ⟨u, c, l, t, f, rfl, hK⟩ := hC
  refine rpOver_H (fun _ _ _ _ _ => False) (fun _ _ _ _ _ h => h.elim) _ _ ?_
  have hK' : ∀ (a : Array Value) (T : TypeId), K (.int .i64 (overF f c l t)) (h.push (.cells a T)) := fun a T => hK _ _ (Step.push0 S0 u h a T)
  clear hK
  revert hK'
  simp only [cntV]
  have over_val : overF f c l t = if capC f c = true then 24 else if 16 < l then 23 else if 8 < t then 22 else 0 := rfl
  by_cases f0 : f = 0
  · subst f0
    by_cases hc : 512 < c
    · rw [show overF 0 c l t = 24 by rw [over_val, if_pos (by simp [capC, hc])]]
      intro hK'
      simp (disch := first | omega | (simp only [e_ssz, e_psz, e_hszs, List.length_cons, List.length_nil]; try omega; done)) only [↓reduceIte, go_sem, rpOver_S, rpOver_E, eq_true (show (512 : Int) < (c : Nat) by omega)]
      exact hK' _ _
    rw [over_val, if_neg (by simp [capC]; omega)]
    by_cases hl : 16 < l
    · rw [if_pos hl]
      intro hK'
      simp (disch := first | omega | (simp only [e_ssz, e_psz, e_hszs, List.length_cons, List.length_nil]; try omega; done)) only [↓reduceIte, go_sem, rpOver_S, rpOver_E, eq_false (show ¬ (512 : Int) < (c : Nat) by omega), eq_true (show (16 : Int) < (l : Nat) by omega)]
      exact hK' _ _
    rw [if_neg hl]
    by_cases ht : 8 < t
    · rw [if_pos ht]
      intro hK'
      simp (disch := first | omega | (simp only [e_ssz, e_psz, e_hszs, List.length_cons, List.length_nil]; try omega; done)) only [↓reduceIte, go_sem, rpOver_S, rpOver_E, eq_false (show ¬ (512 : Int) < (c : Nat) by omega), eq_false (show ¬ (16 : Int) < (l : Nat) by omega), eq_true (show (8 : Int) < (t : Nat) by omega)]
      exact hK' _ _
    rw [if_neg ht]
    intro hK'
    simp (disch := first | omega | (simp only [e_ssz, e_psz, e_hszs, List.length_cons, List.length_nil]; try omega; done)) only [↓reduceIte, go_sem, rpOver_S, rpOver_E, eq_false (show ¬ (512 : Int) < (c : Nat) by omega), eq_false (show ¬ (16 : Int) < (l : Nat) by omega), eq_false (show ¬ (8 : Int) < (t : Nat) by omega)]
    exact hK' _ _
  by_cases f15 : f = 15
  · subst f15
    by_cases hc : 4096 < c
    · rw [show overF 15 c l t = 24 by rw [over_val, if_pos (by simp [capC, hc])]]
      intro hK'
      simp (disch := first | omega | (simp only [e_ssz, e_psz, e_hszs, List.length_cons, List.length_nil]; try omega; done)) only [↓reduceIte, go_sem, rpOver_S, rpOver_E, eq_true (show (4096 : Int) < (c : Nat) by omega)]
      exact hK' _ _
    rw [over_val, if_neg (by simp [capC]; omega)]
    by_cases hl : 16 < l
    · rw [if_pos hl]
      intro hK'
      simp (disch := first | omega | (simp only [e_ssz, e_psz, e_hszs, List.length_cons, List.length_nil]; try omega; done)) only [↓reduceIte, go_sem, rpOver_S, rpOver_E, eq_false (show ¬ (4096 : Int) < (c : Nat) by omega), eq_true (show (16 : Int) < (l : Nat) by omega)]
      exact hK' _ _
    rw [if_neg hl]
    by_cases ht : 8 < t
    · rw [if_pos ht]
      intro hK'
      simp (disch := first | omega | (simp only [e_ssz, e_psz, e_hszs, List.length_cons, List.length_nil]; try omega; done)) only [↓reduceIte, go_sem, rpOver_S, rpOver_E, eq_false (show ¬ (4096 : Int) < (c : Nat) by omega), eq_false (show ¬ (16 : Int) < (l : Nat) by omega), eq_true (show (8 : Int) < (t : Nat) by omega)]
      exact hK' _ _
    rw [if_neg ht]
    intro hK'
    simp (disch := first | omega | (simp only [e_ssz, e_psz, e_hszs, List.length_cons, List.length_nil]; try omega; done)) only [↓reduceIte, go_sem, rpOver_S, rpOver_E, eq_false (show ¬ (4096 : Int) < (c : Nat) by omega), eq_false (show ¬ (16 : Int) < (l : Nat) by omega), eq_false (show ¬ (8 : Int) < (t : Nat) by omega)]
    exact hK' _ _
  rw [over_val, if_neg (by simp [capC, f0, f15])]
  by_cases hl : 16 < l
  · rw [if_pos hl]
    intro hK'
    simp (disch := first | omega | (simp only [e_ssz, e_psz, e_hszs, List.length_cons, List.length_nil]; try omega; done)) only [↓reduceIte, go_sem, rpOver_S, rpOver_E, eq_false f0, eq_false f15, eq_true (show (16 : Int) < (l : Nat) by omega)]
    exact hK' _ _
  rw [if_neg hl]
  by_cases ht : 8 < t
  · rw [if_pos ht]
    intro hK'
    simp (disch := first | omega | (simp only [e_ssz, e_psz, e_hszs, List.length_cons, List.length_nil]; try omega; done)) only [↓reduceIte, go_sem, rpOver_S, rpOver_E, eq_false f0, eq_false f15, eq_false (show ¬ (16 : Int) < (l : Nat) by omega), eq_true (show (8 : Int) < (t : Nat) by omega)]
    exact hK' _ _
  rw [if_neg ht]
  intro hK'
  simp (disch := first | omega | (simp only [e_ssz, e_psz, e_hszs, List.length_cons, List.length_nil]; try omega; done)) only [↓reduceIte, go_sem, rpOver_S, rpOver_E, eq_false f0, eq_false f15, eq_false (show ¬ (16 : Int) < (l : Nat) by omega), eq_false (show ¬ (8 : Int) < (t : Nat) by omega)]
  exact hK' _ _
def C_rTerm (vs : List Value) (h : H) (K : Value → H → Prop) : Prop := ∃ (u : U) (t : Tok), vs = [.agg (tokE t).toArray] ∧ ∀ u' h', Step S0 u h u' h' → K (.agg (termE (termD t)).toArray) h'
theorem rpTerm_ok {vs : List Value} {h : H} {K : Value → H → Prop} {KP : List PanicEntry → H → Prop} (hC : C_rTerm vs h K) : HCX Tryz.prog 37 vs h K KP := by
  obtain ⟨u, t, rfl, hK⟩ := hC
  refine rpTerm_H (fun _ _ _ _ _ => False) (fun _ _ _ _ _ h => h.elim) _ ?_
  simp only [tokE]
  by_cases k3 : t.1 = 3
  · have hT : termD t = (1, tI t, [], tO t) := by unfold termD tK; simp [k3]
    rw [hT] at hK
    simp only [termE, tI, tO] at hK
    simp (disch := first | omega | (simp only [e_ssz, e_psz, e_hszs, List.length_cons, List.length_nil]; try omega; done)) only [↓reduceIte, go_sem, rpTerm_S, rpTerm_E, eq_true k3]
    exact hK _ _ (Step.refl _ _ _).pushR.pushR
  by_cases k1 : t.1 = 1
  · have hT : termD t = (2, 0, tX t, tO t) := by unfold termD tK; simp [k1]
    rw [hT] at hK
    simp only [termE, tO, tX] at hK
    simp (disch := first | omega | (simp only [e_ssz, e_psz, e_hszs, List.length_cons, List.length_nil]; try omega; done)) only [↓reduceIte, go_sem, rpTerm_S, rpTerm_E, eq_false k3, eq_true k1]
    exact hK _ _ (Step.refl _ _ _).pushR.pushR
  by_cases k4 : t.1 = 4
  · have hT : termD t = (3, 0, tX t, tO t) := by unfold termD tK; simp [k4]
    rw [hT] at hK
    simp only [termE, tO, tX] at hK
    simp (disch := first | omega | (simp only [e_ssz, e_psz, e_hszs, List.length_cons, List.length_nil]; try omega; done)) only [↓reduceIte, go_sem, rpTerm_S, rpTerm_E, eq_false k3, eq_false k1, eq_true k4]
    exact hK _ _ (Step.refl _ _ _).pushR.pushR
  have hT : termD t = (4, 0, tX t, tO t) := by unfold termD tK; simp [k1, k3, k4]
  rw [hT] at hK
  simp only [termE, tO, tX] at hK
  simp (disch := first | omega | (simp only [e_ssz, e_psz, e_hszs, List.length_cons, List.length_nil]; try omega; done)) only [↓reduceIte, go_sem, rpTerm_S, rpTerm_E, eq_false k3, eq_false k1, eq_false k4]
  exact hK _ _ (Step.refl _ _ _).pushR.pushR
end Go.Proofs.YtmnfhmbmifompaaGreatDoor
