/- The document's table of states, walked (lines of one kind: printed by a program of ours). -/
import Derived.Test.YtmnfhmbmifompaaGreatDoorPsF
import Derived.Test.YtmnfhmbmifompaaGreatDoorPrS
namespace Go.Proofs.YtmnfhmbmifompaaGreatDoor
open Go Go.Ev Edict
def C_rIsT (vs : List Value) (h : H) (K : Value → H → Prop) : Prop := ∃ k : Int, vs = [.int .i64 k] ∧ K (.bool (isT k true)) h
def C_rIsV (vs : List Value) (h : H) (K : Value → H → Prop) : Prop := ∃ k : Int, vs = [.int .i64 k] ∧ K (.bool (isT k false)) h
theorem rpIsTerm_ok {vs : List Value} {h : H} {K : Value → H → Prop} {KP : List PanicEntry → H → Prop} (hC : C_rIsT vs h K) : HCX Tryz.prog 36 vs h K KP := by
  obtain ⟨k, rfl, hK⟩ := hC
  refine rpIsTerm_H (fun _ _ _ _ _ => False) (fun _ _ _ _ _ h => h.elim) _ ?_
  unfold isT at hK
  by_cases k1 : k = 1
  · subst k1
    simp at hK
    simp (disch := first | omega | (simp only [e_ssz, e_psz, e_hszs, List.length_cons, List.length_nil]; try omega; done)) only [↓reduceIte, go_sem, rpIsTerm_S, rpIsTerm_E]
    exact hK
  by_cases k2 : k = 2
  · subst k2
    simp at hK
    simp (disch := first | omega | (simp only [e_ssz, e_psz, e_hszs, List.length_cons, List.length_nil]; try omega; done)) only [↓reduceIte, go_sem, rpIsTerm_S, rpIsTerm_E]
    exact hK
  by_cases k3 : k = 3
  · subst k3
    simp at hK
    simp (disch := first | omega | (simp only [e_ssz, e_psz, e_hszs, List.length_cons, List.length_nil]; try omega; done)) only [↓reduceIte, go_sem, rpIsTerm_S, rpIsTerm_E]
    exact hK
  by_cases k4 : k = 4
  · subst k4
    simp at hK
    simp (disch := first | omega | (simp only [e_ssz, e_psz, e_hszs, List.length_cons, List.length_nil]; try omega; done)) only [↓reduceIte, go_sem, rpIsTerm_S, rpIsTerm_E]
    exact hK
  rw [decide_eq_false k1, decide_eq_false k3, decide_eq_false k4, decide_eq_false k2] at hK
  simp (disch := first | omega | (simp only [e_ssz, e_psz, e_hszs, List.length_cons, List.length_nil]; try omega; done)) only [↓reduceIte, go_sem, rpIsTerm_S, rpIsTerm_E, k1, k2, k3, k4]
  exact hK
theorem rpIsValue_ok {vs : List Value} {h : H} {K : Value → H → Prop} {KP : List PanicEntry → H → Prop} (hC : C_rIsV vs h K) : HCX Tryz.prog 60 vs h K KP := by
  obtain ⟨k, rfl, hK⟩ := hC
  refine rpIsValue_H (fun _ _ _ _ _ => False) (fun _ _ _ _ _ h => h.elim) _ ?_
  unfold isT at hK
  by_cases k1 : k = 1
  · subst k1
    simp at hK
    simp (disch := first | omega | (simp only [e_ssz, e_psz, e_hszs, List.length_cons, List.length_nil]; try omega; done)) only [↓reduceIte, go_sem, rpIsValue_S, rpIsValue_E]
    exact hK
  by_cases k3 : k = 3
  · subst k3
    simp at hK
    simp (disch := first | omega | (simp only [e_ssz, e_psz, e_hszs, List.length_cons, List.length_nil]; try omega; done)) only [↓reduceIte, go_sem, rpIsValue_S, rpIsValue_E]
    exact hK
  by_cases k4 : k = 4
  · subst k4
    simp at hK
    simp (disch := first | omega | (simp only [e_ssz, e_psz, e_hszs, List.length_cons, List.length_nil]; try omega; done)) only [↓reduceIte, go_sem, rpIsValue_S, rpIsValue_E]
    exact hK
  rw [decide_eq_false k1, decide_eq_false k3, decide_eq_false k4, Bool.and_false] at hK
  simp (disch := first | omega | (simp only [e_ssz, e_psz, e_hszs, List.length_cons, List.length_nil]; try omega; done)) only [↓reduceIte, go_sem, rpIsValue_S, rpIsValue_E, k1, k3, k4]
  exact hK
def C_rpMoveHead (vs : List Value) (h : H) (K : Value → H → Prop) : Prop := ∃ f s k : Int, vs = [.int .i64 s, .int .i64 k] ∧ (s = 0 ∨ s = 1 ∨ s = 2 ∨ s = 3 ∨ s = 4) ∧ K (.int .i64 (moveF f s k)) h
def G_rpMoveHead : Ctr := fun fn vs h K _ => fn = 36 ∧ C_rIsT vs h K
theorem G_rpMoveHead_ok : GOk Tryz.prog G_rpMoveHead := by
  rintro fn vs h K KP ⟨rfl, hC⟩; exact rpIsTerm_ok hC
theorem rpMoveHead_ok {vs : List Value} {h : H} {K : Value → H → Prop} {KP : List PanicEntry → H → Prop} (hC : C_rpMoveHead vs h K) : HCX Tryz.prog 46 vs h K KP := by
  obtain ⟨f, s, k, rfl, hs, hK⟩ := hC
  refine rpMoveHead_H G_rpMoveHead G_rpMoveHead_ok _ _ ?_
  rcases hs with rfl | rfl | rfl | rfl | rfl
  · have hK : K (.int .i64 (moveF f 0 k)) h := hK
    have hm : moveF f 0 k = if k = 1 then 1 else if k = 0 then 26 else -1 := by simp [moveF]
    rw [hm] at hK
    by_cases k1 : k = 1
    · rw [if_pos k1] at hK
      subst k1
      simp (disch := first | omega | (simp only [e_ssz, e_psz, e_hszs, List.length_cons, List.length_nil]; try omega; done)) only [↓reduceIte, go_sem, rpMoveHead_S, rpMoveHead_E]
      exact hK
    rw [if_neg k1] at hK
    by_cases k0 : k = 0
    · rw [if_pos k0] at hK
      subst k0
      simp (disch := first | omega | (simp only [e_ssz, e_psz, e_hszs, List.length_cons, List.length_nil]; try omega; done)) only [↓reduceIte, go_sem, rpMoveHead_S, rpMoveHead_E]
      exact hK
    rw [if_neg k0] at hK
    simp (disch := first | omega | (simp only [e_ssz, e_psz, e_hszs, List.length_cons, List.length_nil]; try omega; done)) only [↓reduceIte, go_sem, rpMoveHead_S, rpMoveHead_E, eq_false k1, eq_false k0]
    exact hK
  · have hK : K (.int .i64 (moveF f 1 k)) h := hK
    have hm : moveF f 1 k = if k = 5 then 2 else if k = 8 then 0 else if k = 9 then 5 else -1 := by simp [moveF]
    rw [hm] at hK
    by_cases k5 : k = 5
    · rw [if_pos k5] at hK
      subst k5
      simp (disch := first | omega | (simp only [e_ssz, e_psz, e_hszs, List.length_cons, List.length_nil]; try omega; done)) only [↓reduceIte, go_sem, rpMoveHead_S, rpMoveHead_E]
      exact hK
    rw [if_neg k5] at hK
    by_cases k8 : k = 8
    · rw [if_pos k8] at hK
      subst k8
      simp (disch := first | omega | (simp only [e_ssz, e_psz, e_hszs, List.length_cons, List.length_nil]; try omega; done)) only [↓reduceIte, go_sem, rpMoveHead_S, rpMoveHead_E]
      exact hK
    rw [if_neg k8] at hK
    by_cases k9 : k = 9
    · rw [if_pos k9] at hK
      subst k9
      simp (disch := first | omega | (simp only [e_ssz, e_psz, e_hszs, List.length_cons, List.length_nil]; try omega; done)) only [↓reduceIte, go_sem, rpMoveHead_S, rpMoveHead_E]
      exact hK
    rw [if_neg k9] at hK
    simp (disch := first | omega | (simp only [e_ssz, e_psz, e_hszs, List.length_cons, List.length_nil]; try omega; done)) only [↓reduceIte, go_sem, rpMoveHead_S, rpMoveHead_E, eq_false k5, eq_false k8, eq_false k9]
    exact hK
  · have hK : K (.int .i64 (moveF f 2 k)) h := hK
    have hm : moveF f 2 k = if isT k true = true then 3 else -1 := by simp [moveF]
    rw [hm] at hK
    simp (disch := first | omega | (simp only [e_ssz, e_psz, e_hszs, List.length_cons, List.length_nil]; try omega; done)) only [↓reduceIte, go_sem, rpMoveHead_S, rpMoveHead_E]
    refine effS_call ⟨rfl, k, rfl, ⟨by simp (disch := first | omega | (simp only [e_ssz, e_psz, e_hszs, List.length_cons, List.length_nil]; try omega; done)) only [go_sem], ?_⟩⟩
    cases hT : isT k true with
    | true =>
      rw [hT, if_pos rfl] at hK
      simp (disch := first | omega | (simp only [e_ssz, e_psz, e_hszs, List.length_cons, List.length_nil]; try omega; done)) only [↓reduceIte, go_sem]
      exact hK
    | false =>
      rw [hT, if_neg (by simp)] at hK
      simp (disch := first | omega | (simp only [e_ssz, e_psz, e_hszs, List.length_cons, List.length_nil]; try omega; done)) only [↓reduceIte, go_sem]
      exact hK
  · have hK : K (.int .i64 (moveF f 3 k)) h := hK
    have hm : moveF f 3 k = if k = 7 then 2 else if k = 6 then 4 else -1 := by simp [moveF]
    rw [hm] at hK
    by_cases k7 : k = 7
    · rw [if_pos k7] at hK
      subst k7
      simp (disch := first | omega | (simp only [e_ssz, e_psz, e_hszs, List.length_cons, List.length_nil]; try omega; done)) only [↓reduceIte, go_sem, rpMoveHead_S, rpMoveHead_E]
      exact hK
    rw [if_neg k7] at hK
    by_cases k6 : k = 6
    · rw [if_pos k6] at hK
      subst k6
      simp (disch := first | omega | (simp only [e_ssz, e_psz, e_hszs, List.length_cons, List.length_nil]; try omega; done)) only [↓reduceIte, go_sem, rpMoveHead_S, rpMoveHead_E]
      exact hK
    rw [if_neg k6] at hK
    simp (disch := first | omega | (simp only [e_ssz, e_psz, e_hszs, List.length_cons, List.length_nil]; try omega; done)) only [↓reduceIte, go_sem, rpMoveHead_S, rpMoveHead_E, eq_false k7, eq_false k6]
    exact hK
  · have hK : K (.int .i64 (moveF f 4 k)) h := hK
    have hm : moveF f 4 k = if k = 8 then 0 else if k = 9 then 5 else -1 := by simp [moveF]
    rw [hm] at hK
    by_cases k8 : k = 8
    · rw [if_pos k8] at hK
      subst k8
      simp (disch := first | omega | (simp only [e_ssz, e_psz, e_hszs, List.length_cons, List.length_nil]; try omega; done)) only [↓reduceIte, go_sem, rpMoveHead_S, rpMoveHead_E]
      exact hK
    rw [if_neg k8] at hK
    by_cases k9 : k = 9
    · rw [if_pos k9] at hK
      subst k9
      simp (disch := first | omega | (simp only [e_ssz, e_psz, e_hszs, List.length_cons, List.length_nil]; try omega; done)) only [↓reduceIte, go_sem, rpMoveHead_S, rpMoveHead_E]
      exact hK
    rw [if_neg k9] at hK
    simp (disch := first | omega | (simp only [e_ssz, e_psz, e_hszs, List.length_cons, List.length_nil]; try omega; done)) only [↓reduceIte, go_sem, rpMoveHead_S, rpMoveHead_E, eq_false k8, eq_false k9]
    exact hK
def C_rpMoveFact (vs : List Value) (h : H) (K : Value → H → Prop) : Prop := ∃ f s k : Int, vs = [.int .i64 s, .int .i64 k] ∧ (s = 15 ∨ s = 16 ∨ s = 17 ∨ s = 18 ∨ s = 19 ∨ s = 20 ∨ s = 21 ∨ s = 22 ∨ s = 23 ∨ s = 24) ∧ K (.int .i64 (moveF f s k)) h
def G_rpMoveFact : Ctr := fun fn vs h K _ => fn = 60 ∧ C_rIsV vs h K
theorem G_rpMoveFact_ok : GOk Tryz.prog G_rpMoveFact := by
  rintro fn vs h K KP ⟨rfl, hC⟩; exact rpIsValue_ok hC
theorem rpMoveFact_ok {vs : List Value} {h : H} {K : Value → H → Prop} {KP : List PanicEntry → H → Prop} (hC : C_rpMoveFact vs h K) : HCX Tryz.prog 47 vs h K KP := by
  obtain ⟨f, s, k, rfl, hs, hK⟩ := hC
  refine rpMoveFact_H G_rpMoveFact G_rpMoveFact_ok _ _ ?_
  rcases hs with rfl | rfl | rfl | rfl | rfl | rfl | rfl | rfl | rfl | rfl
  · have hK : K (.int .i64 (moveF f 15 k)) h := hK
    have hm : moveF f 15 k = if k = 1 then 16 else if k = 0 then 26 else -1 := by simp [moveF]
    rw [hm] at hK
    by_cases k1 : k = 1
    · rw [if_pos k1] at hK
      subst k1
      simp (disch := first | omega | (simp only [e_ssz, e_psz, e_hszs, List.length_cons, List.length_nil]; try omega; done)) only [↓reduceIte, go_sem, rpMoveFact_S, rpMoveFact_E]
      exact hK
    rw [if_neg k1] at hK
    by_cases k0 : k = 0
    · rw [if_pos k0] at hK
      subst k0
      simp (disch := first | omega | (simp only [e_ssz, e_psz, e_hszs, List.length_cons, List.length_nil]; try omega; done)) only [↓reduceIte, go_sem, rpMoveFact_S, rpMoveFact_E]
      exact hK
    rw [if_neg k0] at hK
    simp (disch := first | omega | (simp only [e_ssz, e_psz, e_hszs, List.length_cons, List.length_nil]; try omega; done)) only [↓reduceIte, go_sem, rpMoveFact_S, rpMoveFact_E, eq_false k1, eq_false k0]
    exact hK
  · have hK : K (.int .i64 (moveF f 16 k)) h := hK
    have hm : moveF f 16 k = if k = 5 then 17 else if k = 8 then 15 else -1 := by simp [moveF]
    rw [hm] at hK
    by_cases k5 : k = 5
    · rw [if_pos k5] at hK
      subst k5
      simp (disch := first | omega | (simp only [e_ssz, e_psz, e_hszs, List.length_cons, List.length_nil]; try omega; done)) only [↓reduceIte, go_sem, rpMoveFact_S, rpMoveFact_E]
      exact hK
    rw [if_neg k5] at hK
    by_cases k8 : k = 8
    · rw [if_pos k8] at hK
      subst k8
      simp (disch := first | omega | (simp only [e_ssz, e_psz, e_hszs, List.length_cons, List.length_nil]; try omega; done)) only [↓reduceIte, go_sem, rpMoveFact_S, rpMoveFact_E]
      exact hK
    rw [if_neg k8] at hK
    simp (disch := first | omega | (simp only [e_ssz, e_psz, e_hszs, List.length_cons, List.length_nil]; try omega; done)) only [↓reduceIte, go_sem, rpMoveFact_S, rpMoveFact_E, eq_false k5, eq_false k8]
    exact hK
  · have hK : K (.int .i64 (moveF f 17 k)) h := hK
    have hm : moveF f 17 k = if isT k false = true then 18 else -1 := by simp [moveF]
    rw [hm] at hK
    simp (disch := first | omega | (simp only [e_ssz, e_psz, e_hszs, List.length_cons, List.length_nil]; try omega; done)) only [↓reduceIte, go_sem, rpMoveFact_S, rpMoveFact_E]
    refine effS_call ⟨rfl, k, rfl, ⟨by simp (disch := first | omega | (simp only [e_ssz, e_psz, e_hszs, List.length_cons, List.length_nil]; try omega; done)) only [go_sem], ?_⟩⟩
    cases hT : isT k false with
    | true =>
      rw [hT, if_pos rfl] at hK
      simp (disch := first | omega | (simp only [e_ssz, e_psz, e_hszs, List.length_cons, List.length_nil]; try omega; done)) only [↓reduceIte, go_sem]
      exact hK
    | false =>
      rw [hT, if_neg (by simp)] at hK
      simp (disch := first | omega | (simp only [e_ssz, e_psz, e_hszs, List.length_cons, List.length_nil]; try omega; done)) only [↓reduceIte, go_sem]
      exact hK
  · have hK : K (.int .i64 (moveF f 18 k)) h := hK
    have hm : moveF f 18 k = if k = 7 then 17 else if k = 6 then 19 else -1 := by simp [moveF]
    rw [hm] at hK
    by_cases k7 : k = 7
    · rw [if_pos k7] at hK
      subst k7
      simp (disch := first | omega | (simp only [e_ssz, e_psz, e_hszs, List.length_cons, List.length_nil]; try omega; done)) only [↓reduceIte, go_sem, rpMoveFact_S, rpMoveFact_E]
      exact hK
    rw [if_neg k7] at hK
    by_cases k6 : k = 6
    · rw [if_pos k6] at hK
      subst k6
      simp (disch := first | omega | (simp only [e_ssz, e_psz, e_hszs, List.length_cons, List.length_nil]; try omega; done)) only [↓reduceIte, go_sem, rpMoveFact_S, rpMoveFact_E]
      exact hK
    rw [if_neg k6] at hK
    simp (disch := first | omega | (simp only [e_ssz, e_psz, e_hszs, List.length_cons, List.length_nil]; try omega; done)) only [↓reduceIte, go_sem, rpMoveFact_S, rpMoveFact_E, eq_false k7, eq_false k6]
    exact hK
  · have hK : K (.int .i64 (moveF f 19 k)) h := hK
    have hm : moveF f 19 k = if k = 8 then 15 else -1 := by simp [moveF]
    rw [hm] at hK
    by_cases k8 : k = 8
    · rw [if_pos k8] at hK
      subst k8
      simp (disch := first | omega | (simp only [e_ssz, e_psz, e_hszs, List.length_cons, List.length_nil]; try omega; done)) only [↓reduceIte, go_sem, rpMoveFact_S, rpMoveFact_E]
      exact hK
    rw [if_neg k8] at hK
    simp (disch := first | omega | (simp only [e_ssz, e_psz, e_hszs, List.length_cons, List.length_nil]; try omega; done)) only [↓reduceIte, go_sem, rpMoveFact_S, rpMoveFact_E, eq_false k8]
    exact hK
  · have hK : K (.int .i64 (moveF f 20 k)) h := hK
    have hm : moveF f 20 k = if k = 1 then 21 else -1 := by simp [moveF]
    rw [hm] at hK
    by_cases k1 : k = 1
    · rw [if_pos k1] at hK
      subst k1
      simp (disch := first | omega | (simp only [e_ssz, e_psz, e_hszs, List.length_cons, List.length_nil]; try omega; done)) only [↓reduceIte, go_sem, rpMoveFact_S, rpMoveFact_E]
      exact hK
    rw [if_neg k1] at hK
    simp (disch := first | omega | (simp only [e_ssz, e_psz, e_hszs, List.length_cons, List.length_nil]; try omega; done)) only [↓reduceIte, go_sem, rpMoveFact_S, rpMoveFact_E, eq_false k1]
    exact hK
  · have hK : K (.int .i64 (moveF f 21 k)) h := hK
    have hm : moveF f 21 k = if k = 5 then 22 else if k = 0 then 26 else -1 := by simp [moveF]
    rw [hm] at hK
    by_cases k5 : k = 5
    · rw [if_pos k5] at hK
      subst k5
      simp (disch := first | omega | (simp only [e_ssz, e_psz, e_hszs, List.length_cons, List.length_nil]; try omega; done)) only [↓reduceIte, go_sem, rpMoveFact_S, rpMoveFact_E]
      exact hK
    rw [if_neg k5] at hK
    by_cases k0 : k = 0
    · rw [if_pos k0] at hK
      subst k0
      simp (disch := first | omega | (simp only [e_ssz, e_psz, e_hszs, List.length_cons, List.length_nil]; try omega; done)) only [↓reduceIte, go_sem, rpMoveFact_S, rpMoveFact_E]
      exact hK
    rw [if_neg k0] at hK
    simp (disch := first | omega | (simp only [e_ssz, e_psz, e_hszs, List.length_cons, List.length_nil]; try omega; done)) only [↓reduceIte, go_sem, rpMoveFact_S, rpMoveFact_E, eq_false k5, eq_false k0]
    exact hK
  · have hK : K (.int .i64 (moveF f 22 k)) h := hK
    have hm : moveF f 22 k = if isT k false = true then 23 else -1 := by simp [moveF]
    rw [hm] at hK
    simp (disch := first | omega | (simp only [e_ssz, e_psz, e_hszs, List.length_cons, List.length_nil]; try omega; done)) only [↓reduceIte, go_sem, rpMoveFact_S, rpMoveFact_E]
    refine effS_call ⟨rfl, k, rfl, ⟨by simp (disch := first | omega | (simp only [e_ssz, e_psz, e_hszs, List.length_cons, List.length_nil]; try omega; done)) only [go_sem], ?_⟩⟩
    cases hT : isT k false with
    | true =>
      rw [hT, if_pos rfl] at hK
      simp (disch := first | omega | (simp only [e_ssz, e_psz, e_hszs, List.length_cons, List.length_nil]; try omega; done)) only [↓reduceIte, go_sem]
      exact hK
    | false =>
      rw [hT, if_neg (by simp)] at hK
      simp (disch := first | omega | (simp only [e_ssz, e_psz, e_hszs, List.length_cons, List.length_nil]; try omega; done)) only [↓reduceIte, go_sem]
      exact hK
  · have hK : K (.int .i64 (moveF f 23 k)) h := hK
    have hm : moveF f 23 k = if k = 7 then 22 else if k = 6 then 24 else -1 := by simp [moveF]
    rw [hm] at hK
    by_cases k7 : k = 7
    · rw [if_pos k7] at hK
      subst k7
      simp (disch := first | omega | (simp only [e_ssz, e_psz, e_hszs, List.length_cons, List.length_nil]; try omega; done)) only [↓reduceIte, go_sem, rpMoveFact_S, rpMoveFact_E]
      exact hK
    rw [if_neg k7] at hK
    by_cases k6 : k = 6
    · rw [if_pos k6] at hK
      subst k6
      simp (disch := first | omega | (simp only [e_ssz, e_psz, e_hszs, List.length_cons, List.length_nil]; try omega; done)) only [↓reduceIte, go_sem, rpMoveFact_S, rpMoveFact_E]
      exact hK
    rw [if_neg k6] at hK
    simp (disch := first | omega | (simp only [e_ssz, e_psz, e_hszs, List.length_cons, List.length_nil]; try omega; done)) only [↓reduceIte, go_sem, rpMoveFact_S, rpMoveFact_E, eq_false k7, eq_false k6]
    exact hK
  · have hK : K (.int .i64 (moveF f 24 k)) h := hK
    have hm : moveF f 24 k = if k = 0 then 26 else -1 := by simp [moveF]
    rw [hm] at hK
    by_cases k0 : k = 0
    · rw [if_pos k0] at hK
      subst k0
      simp (disch := first | omega | (simp only [e_ssz, e_psz, e_hszs, List.length_cons, List.length_nil]; try omega; done)) only [↓reduceIte, go_sem, rpMoveFact_S, rpMoveFact_E]
      exact hK
    rw [if_neg k0] at hK
    simp (disch := first | omega | (simp only [e_ssz, e_psz, e_hszs, List.length_cons, List.length_nil]; try omega; done)) only [↓reduceIte, go_sem, rpMoveFact_S, rpMoveFact_E, eq_false k0]
    exact hK
def C_rpMoveBody (vs : List Value) (h : H) (K : Value → H → Prop) : Prop := ∃ f s k : Int, vs = [.int .i64 s, .int .i64 k, .int .i64 (behF f)] ∧ (s = 5 ∨ s = 6 ∨ s = 7 ∨ s = 8 ∨ s = 9 ∨ s = 10 ∨ s = 11 ∨ s = 12 ∨ s = 13 ∨ s = 14 ∨ s = 25 ∨ s = 26) ∧ K (.int .i64 (moveF f s k)) h
def G_rpMoveBody : Ctr := fun fn vs h K _ => fn = 36 ∧ C_rIsT vs h K
theorem G_rpMoveBody_ok : GOk Tryz.prog G_rpMoveBody := by
  rintro fn vs h K KP ⟨rfl, hC⟩; exact rpIsTerm_ok hC
theorem rpMoveBody_ok {vs : List Value} {h : H} {K : Value → H → Prop} {KP : List PanicEntry → H → Prop} (hC : C_rpMoveBody vs h K) : HCX Tryz.prog 48 vs h K KP := by
  obtain ⟨f, s, k, rfl, hs, hK⟩ := hC
  refine rpMoveBody_H G_rpMoveBody G_rpMoveBody_ok _ _ _ ?_
  rcases hs with rfl | rfl | rfl | rfl | rfl | rfl | rfl | rfl | rfl | rfl | rfl | rfl
  · have hK : K (.int .i64 (moveF f 5 k)) h := hK
    have hm : moveF f 5 k = if k = 1 then 6 else if k = 10 then 7 else if isT k true = true then 8 else -1 := by simp [moveF]
    rw [hm] at hK
    by_cases k1 : k = 1
    · rw [if_pos k1] at hK
      subst k1
      simp (disch := first | omega | (simp only [e_ssz, e_psz, e_hszs, List.length_cons, List.length_nil]; try omega; done)) only [↓reduceIte, go_sem, rpMoveBody_S, rpMoveBody_E]
      exact hK
    rw [if_neg k1] at hK
    by_cases k10 : k = 10
    · rw [if_pos k10] at hK
      subst k10
      simp (disch := first | omega | (simp only [e_ssz, e_psz, e_hszs, List.length_cons, List.length_nil]; try omega; done)) only [↓reduceIte, go_sem, rpMoveBody_S, rpMoveBody_E]
      exact hK
    rw [if_neg k10] at hK
    simp (disch := first | omega | (simp only [e_ssz, e_psz, e_hszs, List.length_cons, List.length_nil]; try omega; done)) only [↓reduceIte, go_sem, rpMoveBody_S, rpMoveBody_E, eq_false k1, eq_false k10]
    refine effS_call ⟨rfl, k, rfl, ⟨by simp (disch := first | omega | (simp only [e_ssz, e_psz, e_hszs, List.length_cons, List.length_nil]; try omega; done)) only [go_sem], ?_⟩⟩
    cases hT : isT k true with
    | true =>
      rw [hT, if_pos rfl] at hK
      simp (disch := first | omega | (simp only [e_ssz, e_psz, e_hszs, List.length_cons, List.length_nil]; try omega; done)) only [↓reduceIte, go_sem]
      exact hK
    | false =>
      rw [hT, if_neg (by simp)] at hK
      simp (disch := first | omega | (simp only [e_ssz, e_psz, e_hszs, List.length_cons, List.length_nil]; try omega; done)) only [↓reduceIte, go_sem, eq_false k1]
      exact hK
  · have hK : K (.int .i64 (moveF f 6 k)) h := hK
    have hm : moveF f 6 k = if k = 11 then 11 else if k = 5 then 9 else if k = 7 then 5 else if k = 8 then behF f else -1 := by simp [moveF]
    rw [hm] at hK
    by_cases k11 : k = 11
    · rw [if_pos k11] at hK
      subst k11
      simp (disch := first | omega | (simp only [e_ssz, e_psz, e_hszs, List.length_cons, List.length_nil]; try omega; done)) only [↓reduceIte, go_sem, rpMoveBody_S, rpMoveBody_E]
      exact hK
    rw [if_neg k11] at hK
    by_cases k5 : k = 5
    · rw [if_pos k5] at hK
      subst k5
      simp (disch := first | omega | (simp only [e_ssz, e_psz, e_hszs, List.length_cons, List.length_nil]; try omega; done)) only [↓reduceIte, go_sem, rpMoveBody_S, rpMoveBody_E]
      exact hK
    rw [if_neg k5] at hK
    by_cases k7 : k = 7
    · rw [if_pos k7] at hK
      subst k7
      simp (disch := first | omega | (simp only [e_ssz, e_psz, e_hszs, List.length_cons, List.length_nil]; try omega; done)) only [↓reduceIte, go_sem, rpMoveBody_S, rpMoveBody_E]
      exact hK
    rw [if_neg k7] at hK
    by_cases k8 : k = 8
    · rw [if_pos k8] at hK
      subst k8
      simp (disch := first | omega | (simp only [e_ssz, e_psz, e_hszs, List.length_cons, List.length_nil]; try omega; done)) only [↓reduceIte, go_sem, rpMoveBody_S, rpMoveBody_E]
      exact hK
    rw [if_neg k8] at hK
    simp (disch := first | omega | (simp only [e_ssz, e_psz, e_hszs, List.length_cons, List.length_nil]; try omega; done)) only [↓reduceIte, go_sem, rpMoveBody_S, rpMoveBody_E, eq_false k11, eq_false k5, eq_false k7, eq_false k8]
    exact hK
  · have hK : K (.int .i64 (moveF f 7 k)) h := hK
    have hm : moveF f 7 k = if k = 1 then 12 else -1 := by simp [moveF]
    rw [hm] at hK
    by_cases k1 : k = 1
    · rw [if_pos k1] at hK
      subst k1
      simp (disch := first | omega | (simp only [e_ssz, e_psz, e_hszs, List.length_cons, List.length_nil]; try omega; done)) only [↓reduceIte, go_sem, rpMoveBody_S, rpMoveBody_E]
      exact hK
    rw [if_neg k1] at hK
    simp (disch := first | omega | (simp only [e_ssz, e_psz, e_hszs, List.length_cons, List.length_nil]; try omega; done)) only [↓reduceIte, go_sem, rpMoveBody_S, rpMoveBody_E, eq_false k1]
    exact hK
  · have hK : K (.int .i64 (moveF f 8 k)) h := hK
    have hm : moveF f 8 k = if k = 11 then 11 else -1 := by simp [moveF]
    rw [hm] at hK
    by_cases k11 : k = 11
    · rw [if_pos k11] at hK
      subst k11
      simp (disch := first | omega | (simp only [e_ssz, e_psz, e_hszs, List.length_cons, List.length_nil]; try omega; done)) only [↓reduceIte, go_sem, rpMoveBody_S, rpMoveBody_E]
      exact hK
    rw [if_neg k11] at hK
    simp (disch := first | omega | (simp only [e_ssz, e_psz, e_hszs, List.length_cons, List.length_nil]; try omega; done)) only [↓reduceIte, go_sem, rpMoveBody_S, rpMoveBody_E, eq_false k11]
    exact hK
  · have hK : K (.int .i64 (moveF f 9 k)) h := hK
    have hm : moveF f 9 k = if isT k true = true then 10 else -1 := by simp [moveF]
    rw [hm] at hK
    simp (disch := first | omega | (simp only [e_ssz, e_psz, e_hszs, List.length_cons, List.length_nil]; try omega; done)) only [↓reduceIte, go_sem, rpMoveBody_S, rpMoveBody_E]
    refine effS_call ⟨rfl, k, rfl, ⟨by simp (disch := first | omega | (simp only [e_ssz, e_psz, e_hszs, List.length_cons, List.length_nil]; try omega; done)) only [go_sem], ?_⟩⟩
    cases hT : isT k true with
    | true =>
      rw [hT, if_pos rfl] at hK
      simp (disch := first | omega | (simp only [e_ssz, e_psz, e_hszs, List.length_cons, List.length_nil]; try omega; done)) only [↓reduceIte, go_sem]
      exact hK
    | false =>
      rw [hT, if_neg (by simp)] at hK
      simp (disch := first | omega | (simp only [e_ssz, e_psz, e_hszs, List.length_cons, List.length_nil]; try omega; done)) only [↓reduceIte, go_sem]
      exact hK
  · have hK : K (.int .i64 (moveF f 10 k)) h := hK
    have hm : moveF f 10 k = if k = 7 then 9 else if k = 6 then 13 else -1 := by simp [moveF]
    rw [hm] at hK
    by_cases k7 : k = 7
    · rw [if_pos k7] at hK
      subst k7
      simp (disch := first | omega | (simp only [e_ssz, e_psz, e_hszs, List.length_cons, List.length_nil]; try omega; done)) only [↓reduceIte, go_sem, rpMoveBody_S, rpMoveBody_E]
      exact hK
    rw [if_neg k7] at hK
    by_cases k6 : k = 6
    · rw [if_pos k6] at hK
      subst k6
      simp (disch := first | omega | (simp only [e_ssz, e_psz, e_hszs, List.length_cons, List.length_nil]; try omega; done)) only [↓reduceIte, go_sem, rpMoveBody_S, rpMoveBody_E]
      exact hK
    rw [if_neg k6] at hK
    simp (disch := first | omega | (simp only [e_ssz, e_psz, e_hszs, List.length_cons, List.length_nil]; try omega; done)) only [↓reduceIte, go_sem, rpMoveBody_S, rpMoveBody_E, eq_false k7, eq_false k6]
    exact hK
  · have hK : K (.int .i64 (moveF f 11 k)) h := hK
    have hm : moveF f 11 k = if isT k true = true then 14 else -1 := by simp [moveF]
    rw [hm] at hK
    simp (disch := first | omega | (simp only [e_ssz, e_psz, e_hszs, List.length_cons, List.length_nil]; try omega; done)) only [↓reduceIte, go_sem, rpMoveBody_S, rpMoveBody_E]
    refine effS_call ⟨rfl, k, rfl, ⟨by simp (disch := first | omega | (simp only [e_ssz, e_psz, e_hszs, List.length_cons, List.length_nil]; try omega; done)) only [go_sem], ?_⟩⟩
    cases hT : isT k true with
    | true =>
      rw [hT, if_pos rfl] at hK
      simp (disch := first | omega | (simp only [e_ssz, e_psz, e_hszs, List.length_cons, List.length_nil]; try omega; done)) only [↓reduceIte, go_sem]
      exact hK
    | false =>
      rw [hT, if_neg (by simp)] at hK
      simp (disch := first | omega | (simp only [e_ssz, e_psz, e_hszs, List.length_cons, List.length_nil]; try omega; done)) only [↓reduceIte, go_sem]
      exact hK
  · have hK : K (.int .i64 (moveF f 12 k)) h := hK
    have hm : moveF f 12 k = if k = 5 then 9 else if k = 7 then 5 else if k = 8 then behF f else -1 := by simp [moveF]
    rw [hm] at hK
    by_cases k5 : k = 5
    · rw [if_pos k5] at hK
      subst k5
      simp (disch := first | omega | (simp only [e_ssz, e_psz, e_hszs, List.length_cons, List.length_nil]; try omega; done)) only [↓reduceIte, go_sem, rpMoveBody_S, rpMoveBody_E]
      exact hK
    rw [if_neg k5] at hK
    by_cases k7 : k = 7
    · rw [if_pos k7] at hK
      subst k7
      simp (disch := first | omega | (simp only [e_ssz, e_psz, e_hszs, List.length_cons, List.length_nil]; try omega; done)) only [↓reduceIte, go_sem, rpMoveBody_S, rpMoveBody_E]
      exact hK
    rw [if_neg k7] at hK
    by_cases k8 : k = 8
    · rw [if_pos k8] at hK
      subst k8
      simp (disch := first | omega | (simp only [e_ssz, e_psz, e_hszs, List.length_cons, List.length_nil]; try omega; done)) only [↓reduceIte, go_sem, rpMoveBody_S, rpMoveBody_E]
      exact hK
    rw [if_neg k8] at hK
    simp (disch := first | omega | (simp only [e_ssz, e_psz, e_hszs, List.length_cons, List.length_nil]; try omega; done)) only [↓reduceIte, go_sem, rpMoveBody_S, rpMoveBody_E, eq_false k5, eq_false k7, eq_false k8]
    exact hK
  · have hK : K (.int .i64 (moveF f 13 k)) h := hK
    have hm : moveF f 13 k = if k = 7 then 5 else if k = 8 then behF f else -1 := by simp [moveF]
    rw [hm] at hK
    by_cases k7 : k = 7
    · rw [if_pos k7] at hK
      subst k7
      simp (disch := first | omega | (simp only [e_ssz, e_psz, e_hszs, List.length_cons, List.length_nil]; try omega; done)) only [↓reduceIte, go_sem, rpMoveBody_S, rpMoveBody_E]
      exact hK
    rw [if_neg k7] at hK
    by_cases k8 : k = 8
    · rw [if_pos k8] at hK
      subst k8
      simp (disch := first | omega | (simp only [e_ssz, e_psz, e_hszs, List.length_cons, List.length_nil]; try omega; done)) only [↓reduceIte, go_sem, rpMoveBody_S, rpMoveBody_E]
      exact hK
    rw [if_neg k8] at hK
    simp (disch := first | omega | (simp only [e_ssz, e_psz, e_hszs, List.length_cons, List.length_nil]; try omega; done)) only [↓reduceIte, go_sem, rpMoveBody_S, rpMoveBody_E, eq_false k7, eq_false k8]
    exact hK
  · have hK : K (.int .i64 (moveF f 14 k)) h := hK
    have hm : moveF f 14 k = if k = 7 then 5 else if k = 8 then behF f else -1 := by simp [moveF]
    rw [hm] at hK
    by_cases k7 : k = 7
    · rw [if_pos k7] at hK
      subst k7
      simp (disch := first | omega | (simp only [e_ssz, e_psz, e_hszs, List.length_cons, List.length_nil]; try omega; done)) only [↓reduceIte, go_sem, rpMoveBody_S, rpMoveBody_E]
      exact hK
    rw [if_neg k7] at hK
    by_cases k8 : k = 8
    · rw [if_pos k8] at hK
      subst k8
      simp (disch := first | omega | (simp only [e_ssz, e_psz, e_hszs, List.length_cons, List.length_nil]; try omega; done)) only [↓reduceIte, go_sem, rpMoveBody_S, rpMoveBody_E]
      exact hK
    rw [if_neg k8] at hK
    simp (disch := first | omega | (simp only [e_ssz, e_psz, e_hszs, List.length_cons, List.length_nil]; try omega; done)) only [↓reduceIte, go_sem, rpMoveBody_S, rpMoveBody_E, eq_false k7, eq_false k8]
    exact hK
  · have hK : K (.int .i64 (moveF f 25 k)) h := hK
    have hm : moveF f 25 k = if k = 0 then 26 else -1 := by simp [moveF]
    rw [hm] at hK
    by_cases k0 : k = 0
    · rw [if_pos k0] at hK
      subst k0
      simp (disch := first | omega | (simp only [e_ssz, e_psz, e_hszs, List.length_cons, List.length_nil]; try omega; done)) only [↓reduceIte, go_sem, rpMoveBody_S, rpMoveBody_E]
      exact hK
    rw [if_neg k0] at hK
    simp (disch := first | omega | (simp only [e_ssz, e_psz, e_hszs, List.length_cons, List.length_nil]; try omega; done)) only [↓reduceIte, go_sem, rpMoveBody_S, rpMoveBody_E, eq_false k0]
    exact hK
  · have hK : K (.int .i64 (moveF f 26 k)) h := hK
    have hm : moveF f 26 k = -1 := by simp [moveF]
    rw [hm] at hK
    simp (disch := first | omega | (simp only [e_ssz, e_psz, e_hszs, List.length_cons, List.length_nil]; try omega; done)) only [↓reduceIte, go_sem, rpMoveBody_S, rpMoveBody_E]
    exact hK
def C_rpMove (vs : List Value) (h : H) (K : Value → H → Prop) : Prop := ∃ f s k : Int, vs = [.int .i64 f, .int .i64 s, .int .i64 k] ∧ (0 ≤ s ∧ s ≤ 26) ∧ K (.int .i64 (moveF f s k)) h
def G_rpMove : Ctr := fun fn vs h K _ => (fn = 46 ∧ C_rpMoveHead vs h K) ∨ (fn = 47 ∧ C_rpMoveFact vs h K) ∨ (fn = 48 ∧ C_rpMoveBody vs h K)
theorem G_rpMove_ok : GOk Tryz.prog G_rpMove := by
  rintro fn vs h K KP (⟨rfl, hC⟩ | ⟨rfl, hC⟩ | ⟨rfl, hC⟩)
  · exact rpMoveHead_ok hC
  · exact rpMoveFact_ok hC
  · exact rpMoveBody_ok hC
theorem rpMove_ok {vs : List Value} {h : H} {K : Value → H → Prop} {KP : List PanicEntry → H → Prop} (hC : C_rpMove vs h K) : HCX Tryz.prog 31 vs h K KP := by
  obtain ⟨f, s, k, rfl, ⟨s0, s26⟩, hK⟩ := hC
  refine rpMove_H G_rpMove G_rpMove_ok _ _ _ ?_
  by_cases h4 : s ≤ 4
  · simp (disch := first | omega | (simp only [e_ssz, e_psz, e_hszs, List.length_cons, List.length_nil]; try omega; done)) only [↓reduceIte, go_sem, rpMove_S, rpMove_E, eq_true h4]
    refine effS_call (.inl ⟨rfl, f, s, k, rfl, by omega, ⟨by simp (disch := first | omega | (simp only [e_ssz, e_psz, e_hszs, List.length_cons, List.length_nil]; try omega; done)) only [go_sem], ?_⟩⟩)
    simp (disch := first | omega | (simp only [e_ssz, e_psz, e_hszs, List.length_cons, List.length_nil]; try omega; done)) only [↓reduceIte, go_sem]
    exact hK
  by_cases h15 : 15 ≤ s
  · by_cases h24 : s ≤ 24
    · simp (disch := first | omega | (simp only [e_ssz, e_psz, e_hszs, List.length_cons, List.length_nil]; try omega; done)) only [↓reduceIte, go_sem, rpMove_S, rpMove_E, eq_false h4, eq_true h15, eq_true h24]
      refine effS_call (.inr (.inl ⟨rfl, f, s, k, rfl, by omega, ⟨by simp (disch := first | omega | (simp only [e_ssz, e_psz, e_hszs, List.length_cons, List.length_nil]; try omega; done)) only [go_sem], ?_⟩⟩))
      simp (disch := first | omega | (simp only [e_ssz, e_psz, e_hszs, List.length_cons, List.length_nil]; try omega; done)) only [↓reduceIte, go_sem]
      exact hK
    · by_cases hf : f = 5
      · have hb : behF f = 25 := by unfold behF; rw [if_pos hf]
        simp (disch := first | omega | (simp only [e_ssz, e_psz, e_hszs, List.length_cons, List.length_nil]; try omega; done)) only [↓reduceIte, go_sem, rpMove_S, rpMove_E, eq_false h4, eq_true h15, eq_false h24, eq_true hf]
        refine effS_call (.inr (.inr ⟨rfl, f, s, k, by rw [hb], by omega, ⟨by simp (disch := first | omega | (simp only [e_ssz, e_psz, e_hszs, List.length_cons, List.length_nil]; try omega; done)) only [go_sem], ?_⟩⟩))
        simp (disch := first | omega | (simp only [e_ssz, e_psz, e_hszs, List.length_cons, List.length_nil]; try omega; done)) only [↓reduceIte, go_sem]
        exact hK
      · have hb : behF f = 0 := by unfold behF; rw [if_neg hf]
        simp (disch := first | omega | (simp only [e_ssz, e_psz, e_hszs, List.length_cons, List.length_nil]; try omega; done)) only [↓reduceIte, go_sem, rpMove_S, rpMove_E, eq_false h4, eq_true h15, eq_false h24, eq_false hf]
        refine effS_call (.inr (.inr ⟨rfl, f, s, k, by rw [hb], by omega, ⟨by simp (disch := first | omega | (simp only [e_ssz, e_psz, e_hszs, List.length_cons, List.length_nil]; try omega; done)) only [go_sem], ?_⟩⟩))
        simp (disch := first | omega | (simp only [e_ssz, e_psz, e_hszs, List.length_cons, List.length_nil]; try omega; done)) only [↓reduceIte, go_sem]
        exact hK
  · by_cases hf : f = 5
    · have hb : behF f = 25 := by unfold behF; rw [if_pos hf]
      simp (disch := first | omega | (simp only [e_ssz, e_psz, e_hszs, List.length_cons, List.length_nil]; try omega; done)) only [↓reduceIte, go_sem, rpMove_S, rpMove_E, eq_false h4, eq_false h15, eq_true hf]
      refine effS_call (.inr (.inr ⟨rfl, f, s, k, by rw [hb], by omega, ⟨by simp (disch := first | omega | (simp only [e_ssz, e_psz, e_hszs, List.length_cons, List.length_nil]; try omega; done)) only [go_sem], ?_⟩⟩))
      simp (disch := first | omega | (simp only [e_ssz, e_psz, e_hszs, List.length_cons, List.length_nil]; try omega; done)) only [↓reduceIte, go_sem]
      exact hK
    · have hb : behF f = 0 := by unfold behF; rw [if_neg hf]
      simp (disch := first | omega | (simp only [e_ssz, e_psz, e_hszs, List.length_cons, List.length_nil]; try omega; done)) only [↓reduceIte, go_sem, rpMove_S, rpMove_E, eq_false h4, eq_false h15, eq_false hf]
      refine effS_call (.inr (.inr ⟨rfl, f, s, k, by rw [hb], by omega, ⟨by simp (disch := first | omega | (simp only [e_ssz, e_psz, e_hszs, List.length_cons, List.length_nil]; try omega; done)) only [go_sem], ?_⟩⟩))
      simp (disch := first | omega | (simp only [e_ssz, e_psz, e_hszs, List.length_cons, List.length_nil]; try omega; done)) only [↓reduceIte, go_sem]
      exact hK
end Go.Proofs.YtmnfhmbmifompaaGreatDoor
