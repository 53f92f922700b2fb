/- Which constants and facts are well formed. -/
import Derived.Test.YteiopegaiohglaaDoorWordG
namespace Edict
def validB (k : Const) : Bool := if k.1 = 1 then decide (k.2.2 = []) else if k.1 = 2 then decide (k.2.1 = 0) && nameB k.2.2 else if k.1 = 3 then decide (k.2.1 = 0) && decide (k.2.2.length ≤ 255) else false
def constW (k : Const) : Int := if validB k then 0 else 5
def firstW {α : Type} (f : α → Int) : List α → Int
  | [] => 0
  | x :: l => if f x = 0 then firstW f l else f x
theorem firstW_drop {α : Type} {f : α → Int} {l : List α} {i : Nat} {x : α} (h : l[i]? = some x) : firstW f (l.drop i) = if f x = 0 then firstW f (l.drop (i + 1)) else f x := by
  obtain ⟨hi, rfl⟩ := List.getElem?_eq_some_iff.1 h
  rw [List.drop_eq_getElem_cons hi]; rfl
def factW (f : Fact) : Int := if nameB f.1 then (if 8 < f.2.length then 22 else firstW constW f.2) else 14
end Edict
namespace Go.Proofs.YteiopegaiohglaaDoor
open Go Go.Ev Edict
theorem mlen : maxLen = 9223372036854775807 := rfl
def C_data {α : Type} [Rep α] (f : α → Value) (vs : List Value) (h : H) (K : Value → H → Prop) : Prop := ∃ (u : U) (a : α) (l : List Value), vs = [.agg l.toArray] ∧ Rep.rep u h a l ∧ Rep.wf a ∧ ∀ u' h', Step S0 u h u' h' → K (f a) h'
def vI {α : Type} (f : α → Int) : α → Value := fun a => .int .i64 (f a)
def vB {α : Type} (f : α → Bool) : α → Value := fun a => .bool (f a)
def G_symValid : Ctr := fun f vs h K _ => (f = 28 ∧ C_str nameB vs h K)
theorem G_symValid_ok : GOk Tryd.prog G_symValid := by
  rintro f vs h K KP (⟨rfl, hC⟩)
  exact symIsName_ok hC
theorem symValid_ok {vs : List Value} {h : H} {K : Value → H → Prop} {KP : List PanicEntry → H → Prop} (hC : C_data (vB validB) vs h K) : HCX Tryd.prog 42 vs h K KP := by
  obtain ⟨u, ⟨kk, ki, ks⟩, l, rfl, hr, ⟨-, -, hs⟩, hK⟩ := hC
  have hs' : ks.length ≤ 9223372036854775807 := hs
  rw [rep_const] at hr
  subst hr
  simp only [vB, validB] at hK
  refine symValid_H G_symValid G_symValid_ok _ ?_
  by_cases h1 : kk = 1
  · subst h1
    simp only [if_true] at hK
    simp (disch := first | omega | (simp only [e_ssz, e_psz, e_hszs, List.length_cons, List.length_nil]; try omega; done)) only [↓reduceIte, go_sem, symValid_S, symValid_E]
    exact hK _ _ (by repeat (first | exact Step.refl _ _ _ | assumption | apply Step.pushR))
  by_cases h2 : kk = 2
  · subst h2
    simp only [show ¬ ((2 : Int) = 1) by decide, if_false, if_true] at hK
    by_cases hi : ki = 0
    · subst hi
      simp only [decide_true, Bool.true_and] at hK
      simp (disch := first | omega | (simp only [e_ssz, e_psz, e_hszs, List.length_cons, List.length_nil]; try omega; done)) only [↓reduceIte, go_sem, symValid_S, symValid_E]
      refine effS_call ⟨rfl, ub u h.size 0, ks, rfl, hs', fun u2 h2 s2 => ⟨by simp (disch := first | omega | (simp only [e_ssz, e_psz, e_hszs, List.length_cons, List.length_nil]; try omega; done)) only [go_sem], ?_⟩⟩
      simp (disch := first | omega | (simp only [e_ssz, e_psz, e_hszs, List.length_cons, List.length_nil]; try omega; done)) only [↓reduceIte, go_sem]
      exact hK _ _ (Step.trans0 (by repeat (first | exact Step.refl _ _ _ | assumption | apply Step.pushR)) s2)
    · rw [decide_eq_false hi] at hK
      simp (disch := first | omega | (simp only [e_ssz, e_psz, e_hszs, List.length_cons, List.length_nil]; try omega; done)) only [↓reduceIte, go_sem, symValid_S, symValid_E, eq_false hi]
      exact hK _ _ (by repeat (first | exact Step.refl _ _ _ | assumption | apply Step.pushR))
  by_cases h3 : kk = 3
  · subst h3
    simp only [show ¬ ((3 : Int) = 1) by decide, show ¬ ((3 : Int) = 2) by decide, if_false, if_true] at hK
    have e : decide ((ks.length : Int) ≤ 255) = decide (ks.length ≤ 255) := by
      by_cases q : ks.length ≤ 255
      · rw [decide_eq_true q, decide_eq_true (by omega)]
      · rw [decide_eq_false q, decide_eq_false (by omega)]
    simp (disch := first | omega | (simp only [e_ssz, e_psz, e_hszs, List.length_cons, List.length_nil]; try omega; done)) only [↓reduceIte, go_sem, symValid_S, symValid_E, e]
    exact hK _ _ (by repeat (first | exact Step.refl _ _ _ | assumption | apply Step.pushR))
  · simp only [eq_false h1, eq_false h2, eq_false h3, if_false] at hK
    simp (disch := first | omega | (simp only [e_ssz, e_psz, e_hszs, List.length_cons, List.length_nil]; try omega; done)) only [↓reduceIte, go_sem, symValid_S, symValid_E, eq_false h1, eq_false h2, eq_false h3]
    exact hK _ _ (by repeat (first | exact Step.refl _ _ _ | assumption | apply Step.pushR))
def G_prWellConst : Ctr := fun f vs h K _ => (f = 42 ∧ C_data (vB validB) vs h K)
theorem G_prWellConst_ok : GOk Tryd.prog G_prWellConst := by
  rintro f vs h K KP (⟨rfl, hC⟩)
  exact symValid_ok hC
theorem prWellConst_ok {vs : List Value} {h : H} {K : Value → H → Prop} {KP : List PanicEntry → H → Prop} (hC : C_data (vI constW) vs h K) : HCX Tryd.prog 30 vs h K KP := by
  obtain ⟨u, k, l, rfl, hr, hw, hK⟩ := hC
  have hr' := hr
  rw [rep_const] at hr
  subst hr
  simp only [vI, constW] at hK
  refine prWellConst_H G_prWellConst G_prWellConst_ok _ ?_
  simp (disch := first | omega | (simp only [e_ssz, e_psz, e_hszs, List.length_cons, List.length_nil]; try omega; done)) only [↓reduceIte, go_sem, prWellConst_S, prWellConst_E]
  refine effS_call ⟨rfl, _, k, _, rfl, Rep.mono (Step.ge (S := S0) (by repeat (first | exact Step.refl _ _ _ | assumption | apply Step.pushR))) hr', hw, fun u2 h2 s2 => ⟨by simp (disch := first | omega | (simp only [e_ssz, e_psz, e_hszs, List.length_cons, List.length_nil]; try omega; done)) only [go_sem], ?_⟩⟩
  simp only [vB]
  have s02 := Step.trans0 (S := S0) (u := u) (h := h) (by repeat (first | exact Step.refl _ _ _ | assumption | apply Step.pushR)) s2
  cases hv : validB k with
  | true => rw [hv] at hK; simp (disch := first | omega | (simp only [e_ssz, e_psz, e_hszs, List.length_cons, List.length_nil]; try omega; done)) only [↓reduceIte, go_sem]; exact hK _ _ s02
  | false => rw [hv] at hK; simp (disch := first | omega | (simp only [e_ssz, e_psz, e_hszs, List.length_cons, List.length_nil]; try omega; done)) only [↓reduceIte, go_sem]; exact hK _ _ s02
end Go.Proofs.YteiopegaiohglaaDoor
