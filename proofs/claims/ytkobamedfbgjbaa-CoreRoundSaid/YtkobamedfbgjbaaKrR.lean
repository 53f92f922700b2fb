/- Of what is accepted: back in names it is what was given: plainly. -/
import Derived.Test.YtkobamedfbgjbaaKcD
import Derived.Test.YtkobamedfbgjbaaVarsC
namespace Edict
def bareT (t : Term) : Term := (t.1, t.2.1, t.2.2.1, 0)
def bareA (a : Atom) : Atom := (a.1, a.2.1.map bareT, 0)
def bareL (x : Literal) : Literal := (x.1, bareA x.2.1, x.2.2.1, bareT x.2.2.2.1, bareT x.2.2.2.2.1, 0)
def kindL (k : Int) (l : List Literal) : List Literal := (l.filter fun x => decide (x.1 = k)).map bareL
def chainF (c : Clause) : Clause := (bareA c.1, kindL 1 c.2 ++ (kindL 3 c.2 ++ kindL 2 c.2))
theorem at_idL {κ : Type} [DecidableEq κ] {l : List κ} {s : κ} (h : s ∈ l) : at? l (idL l s) = some s := by
  have hi := List.idxOf_lt_length_of_mem h
  unfold idL posL
  rw [if_pos h, Option.getD_some]
  unfold at?
  rw [if_pos (by omega), Int.toNat_natCast, List.getElem?_eq_getElem hi, List.getElem_idxOf hi]
theorem at_ids {P : List Pred} {s : Byts} (h : s ∈ P.map (·.1)) : ∃ n, at? P (pids P s) = some (s, n) ∧ (s, n) ∈ P := by
  have := at_idL h
  unfold at? at this ⊢
  unfold pids
  split at this
  · rw [List.getElem?_map, Option.map_eq_some_iff] at this
    obtain ⟨x, hx, rfl⟩ := this
    rename_i hp
    rw [if_pos hp]
    exact ⟨x.2, hx, List.mem_of_getElem? hx⟩
  · cases this
theorem lastI_get {vs : Strs} {s : Byts} (h : s ∈ vs) : 0 ≤ lastI vs s ∧ vs[(lastI vs s).toNat]? = some s := by
  have hr := List.mem_reverse.2 h
  have hi := List.idxOf_lt_length_of_mem hr
  unfold lastI lastL
  rw [if_pos h, Option.getD_some]
  refine ⟨by omega, ?_⟩
  rw [Int.toNat_natCast]
  have e : vs.reverse[vs.reverse.idxOf s]'hi = s := List.getElem_idxOf hi
  rw [List.getElem_reverse] at e
  rw [List.length_reverse] at hi
  rw [List.getElem?_eq_getElem (by omega), e]
theorem pfx_at {α : Type} {a b : List α} (h : a <+: b) {i : Nat} {x : α} (hx : a[i]? = some x) : b[i]? = some x := by
  obtain ⟨c, rfl⟩ := h
  rw [List.getElem?_append_left (List.getElem?_eq_some_iff.1 hx).1, hx]
theorem termB_ok {C : List Const} {vs V : Strs} {t : Term} (hp : vs <+: V) (hw : termW t = 0) (hc : t.1 ≠ 4 → cnst t ∈ C) (hv : t.1 = 4 → t.2.2.1 ∈ vs) : termB C V (slotN C vs t) = some (bareT t) := by
  unfold termB slotN
  by_cases h4 : t.1 = 4
  · rw [if_pos h4, if_pos rfl]
    obtain ⟨l1, l2⟩ := lastI_get (hv h4)
    unfold at?
    rw [if_pos l1, pfx_at hp l2]
    unfold termW at hw
    rw [if_pos h4] at hw
    split at hw
    · rename_i hh
      unfold bareT
      rw [h4, hh.1]; rfl
    · cases hw
  · rw [if_neg h4, if_neg (by simp)]
    rw [at_idL (hc h4)]; rfl
theorem varT_self (vs : Strs) {t : Term} (h4 : t.1 = 4) : t.2.2.1 ∈ varT vs t := by
  unfold varT
  by_cases h : t.2.2.1 ∈ vs
  · split
    · exact List.mem_append.2 (.inl h)
    · exact h
  · rw [if_pos ⟨h4, .inr h⟩]; simp
theorem varT_pfx (vs : Strs) (t : Term) : vs <+: varT vs t := by
  unfold varT; split
  · exact List.prefix_append _ _
  · exact List.prefix_refl _
theorem varsT_pfx : ∀ (l : List Term) (vs : Strs), vs <+: l.foldl varT vs
  | [], _ => List.prefix_refl _
  | t :: l, vs => (varT_pfx vs t).trans (varsT_pfx l _)
theorem varL_pfx (vs : Strs) (x : Literal) : vs <+: varL vs x := by
  unfold varL; split
  · exact varsT_pfx _ _
  · exact List.prefix_refl _
theorem varsL_pfx : ∀ (l : List Literal) (vs : Strs), vs <+: l.foldl varL vs
  | [], _ => List.prefix_refl _
  | x :: l, vs => (varL_pfx vs x).trans (varsL_pfx l _)
def TermI (C : List Const) (t : Term) : Prop := termW t = 0 ∧ (t.1 ≠ 4 → cnst t ∈ C)
theorem slotsP_ok {C : List Const} {V : Strs} : ∀ (ts : List Term) (vs : Strs), ts.foldl varT vs <+: V → (∀ t ∈ ts, TermI C t) → mapS (termB C V) (slotsP C vs ts) = some (ts.map bareT)
  | [], _, _, _ => rfl
  | t :: l, vs, hp, h => by
    have ht := h t (List.mem_cons_self ..)
    have h1 : varT vs t <+: V := (varsT_pfx l _).trans hp
    rw [slotsP, mapS, slotP, termB_ok h1 ht.1 ht.2 (varT_self vs), slotsP_ok l _ hp fun y hy => h y (List.mem_cons_of_mem _ hy)]
    rfl
theorem atom_slots {P : List Pred} {C : List Const} {V : Strs} {a : Atom} {n : Int} {sl : List Slot} (hn : at? P (pids P a.1) = some (a.1, n)) (hs : mapS (termB C V) sl = some (a.2.1.map bareT)) : atomB P C V (pids P a.1, sl) = some (bareA a) := by
  unfold atomB
  rw [hn, Option.bind_some, hs]; rfl
theorem atom_pat {P : List Pred} {C : List Const} {V : Strs} {a : Atom} (hn : a.1 ∈ P.map (·.1)) (ht : ∀ t ∈ a.2.1, TermI C t) (hl : ∀ t ∈ a.2.1, looseB V t = false) : atomB P C V (patF P C V a) = some (bareA a) := by
  obtain ⟨n, h1, -⟩ := at_ids hn
  refine atom_slots h1 ?_
  have : ∀ s ∈ a.2.1.map (slotN C V), termB C V s = (termB C V s) := fun _ _ => rfl
  have e : ∀ l : List Term, (∀ t ∈ l, termB C V (slotN C V t) = some (bareT t)) → mapS (termB C V) (l.map (slotN C V)) = some (l.map bareT) := by
    intro l
    induction l with
    | nil => intro _; rfl
    | cons t l ih =>
      intro h
      rw [List.map_cons, mapS, h t (List.mem_cons_self ..), ih fun y hy => h y (List.mem_cons_of_mem _ hy)]; rfl
  refine e _ fun t hh => termB_ok (List.prefix_refl _) (ht t hh).1 (ht t hh).2 (fun h4 => ?_)
  have := hl t hh
  unfold looseB at this
  rw [decide_eq_true h4, Bool.true_and, Bool.or_eq_false_iff, decide_eq_false_iff_not, decide_eq_false_iff_not] at this
  exact Classical.byContradiction this.2
theorem zeroB_bare {t : Term} (h : zeroB t = true) : bareT t = zterm := by
  unfold zeroB at h
  simp only [Bool.and_eq_true, decide_eq_true_eq] at h
  unfold bareT zterm
  rw [h.1.1, h.1.2, h.2]
theorem lit_atom {x : Literal} (hw : litW x = 0) (h : x.1 = 1 ∨ x.1 = 2) : atomW x.2.1 = 0 ∧ bareL x = (x.1, bareA x.2.1, 0, zterm, zterm, 0) := by
  unfold litW at hw
  rw [if_pos h] at hw
  split at hw
  · rename_i hh
    refine ⟨hw, ?_⟩
    unfold bareL
    rw [hh.1, zeroB_bare hh.2.1, zeroB_bare hh.2.2]
  · cases hw
theorem atomW_terms {a : Atom} (h : atomW a = 0) : ∀ t ∈ a.2.1, termW t = 0 := by
  unfold atomW at h
  split at h
  · split at h
    · cases h
    · exact firstW_all0 h
  · cases h
structure LitI (P : List Pred) (C : List Const) (x : Literal) : Prop where
  w : litW x = 0
  c : ∀ t ∈ termsL x, t.1 ≠ 4 → cnst t ∈ C
  p : isA x = true → x.2.1.1 ∈ P.map (·.1)
theorem posF_ok {P : List Pred} {C : List Const} {V : Strs} : ∀ (ls : List Literal) (vs : Strs), ls.foldl varL vs <+: V → (∀ x ∈ ls, LitI P C x) → (posF P C vs ls).map (litB 1 P C V) = (kindL 1 ls).map some
  | [], _, _, _ => rfl
  | x :: l, vs, hp, h => by
    have hx := h x (List.mem_cons_self ..)
    have ih := posF_ok (P := P) (C := C) (V := V) l (varL vs x) hp fun y hy => h y (List.mem_cons_of_mem _ hy)
    by_cases h1 : x.1 = 1
    · obtain ⟨ha, hb⟩ := lit_atom hx.w (.inl h1)
      obtain ⟨n, hn, -⟩ := at_ids (hx.p (by unfold isA; simp [h1]))
      have hv : varL vs x = x.2.1.2.1.foldl varT vs := by unfold varL; rw [if_pos h1]
      have hq : x.2.1.2.1.foldl varT vs <+: V := by rw [← hv]; exact (varsL_pfx l _).trans hp
      have hat := atom_slots (V := V) hn (slotsP_ok (C := C) x.2.1.2.1 vs hq fun t ht => ⟨atomW_terms ha t ht, hx.c t (by unfold termsL; rw [if_pos (.inl h1)]; exact ht)⟩)
      have e : kindL 1 (x :: l) = bareL x :: kindL 1 l := by unfold kindL; rw [List.filter_cons_of_pos (by simp [h1])]; rfl
      rw [posF, if_pos h1, List.map_cons, ih, e, List.map_cons]
      congr 1
      unfold litB
      rw [hat, Option.map_some, hb, h1]; rfl
    · have hv : varL vs x = vs := by unfold varL; rw [if_neg h1]
      have e : kindL 1 (x :: l) = kindL 1 l := by unfold kindL; rw [List.filter_cons_of_neg (by simp [h1])]
      rw [hv] at ih
      rw [posF, if_neg h1, ih, e]
theorem negs_ok {P : List Pred} {C : List Const} {V : Strs} : ∀ (ls : List Literal), (∀ x ∈ ls, LitI P C x) → (∀ x ∈ ls, ∀ t ∈ askL x, looseB V t = false) → (negsF P C V ls).map (litB 2 P C V) = (kindL 2 ls).map some
  | [], _, _ => rfl
  | x :: l, h, hl => by
    have hx := h x (List.mem_cons_self ..)
    have ih := negs_ok (P := P) (C := C) (V := V) l (fun y hy => h y (List.mem_cons_of_mem _ hy)) (fun y hy => hl y (List.mem_cons_of_mem _ hy))
    unfold negsF kindL at ih ⊢
    by_cases h2 : x.1 = 2
    · obtain ⟨ha, hb⟩ := lit_atom hx.w (.inr h2)
      have hat := atom_pat (V := V) (C := C) (hx.p (by unfold isA; simp [h2])) (fun t ht => ⟨atomW_terms ha t ht, hx.c t (by unfold termsL; rw [if_pos (.inr h2)]; exact ht)⟩) (fun t ht => hl x (List.mem_cons_self ..) t (by unfold askL; rw [if_pos h2]; exact ht))
      rw [List.filter_cons_of_pos (by simp [h2]), List.map_cons, List.map_cons, List.map_cons, List.map_cons, ih]
      congr 1
      unfold litB
      rw [hat, Option.map_some, hb, h2]; rfl
    · rw [List.filter_cons_of_neg (by simp [h2])]; exact ih
theorem tests_ok {P : List Pred} {C : List Const} {V : Strs} : ∀ (ls : List Literal), (∀ x ∈ ls, LitI P C x) → (∀ x ∈ ls, ∀ t ∈ askL x, looseB V t = false) → (testsF C V ls).map (testB C V) = (kindL 3 ls).map some
  | [], _, _ => rfl
  | x :: l, h, hl => by
    have hx := h x (List.mem_cons_self ..)
    have ih := tests_ok (P := P) (C := C) (V := V) l (fun y hy => h y (List.mem_cons_of_mem _ hy)) (fun y hy => hl y (List.mem_cons_of_mem _ hy))
    unfold testsF kindL at ih ⊢
    by_cases h3 : x.1 = 3
    · have hw := hx.w
      unfold litW at hw
      rw [if_neg (by omega), if_pos h3] at hw
      unfold testW at hw
      split at hw
      · cases hw
      · rename_i hh
        have n1 : x.2.1.1 = [] := Classical.byContradiction fun q => hh (.inr (.inr (.inl q)))
        have n2 : x.2.1.2.1 = [] := Classical.byContradiction fun q => hh (.inr (.inr (.inr q)))
        split at hw
        · rename_i hwl
          have hask : ∀ t, t = x.2.2.2.1 ∨ t = x.2.2.2.2.1 → termB C V (slotN C V t) = some (bareT t) := fun t ht => by
            have hm : t ∈ [x.2.2.2.1, x.2.2.2.2.1] := by rcases ht with rfl | rfl <;> simp
            refine termB_ok (List.prefix_refl _) (by rcases ht with rfl | rfl; exact hwl; exact hw) (hx.c t (by unfold termsL; rw [if_neg (by omega), if_pos h3]; exact hm)) (fun h4 => ?_)
            have := hl x (List.mem_cons_self ..) t (by unfold askL; rw [if_neg (by omega), if_pos h3]; exact hm)
            unfold looseB at this
            rw [decide_eq_true h4, Bool.true_and, Bool.or_eq_false_iff, decide_eq_false_iff_not, decide_eq_false_iff_not] at this
            exact Classical.byContradiction this.2
          rw [List.filter_cons_of_pos (by simp [h3]), List.map_cons, List.map_cons, List.map_cons, List.map_cons, ih]
          congr 1
          unfold testB testF
          simp only
          rw [hask _ (.inl rfl), Option.bind_some, hask _ (.inr rfl), Option.map_some]
          unfold bareL bareA
          rw [n1, n2, h3]; rfl
        · rename_i hwl; exact absurd hw hwl
    · rw [List.filter_cons_of_neg (by simp [h3])]; exact ih
theorem mapS_id {α : Type} (l : List α) : mapS id (l.map some) = some l := by
  induction l with
  | nil => rfl
  | cons x l ih => rw [List.map_cons, mapS, ih]; rfl
theorem looseC_none {c : Clause} (h : boundC c = (0, 0, 0)) : ∀ t ∈ allTerms c, looseB (varsF c.2) t = false := by
  unfold boundC at h
  cases hc : crowdF [] (termsC c) with
  | some t => rw [hc] at h; cases h
  | none =>
    rw [hc] at h
    cases hl : looseO c with
    | some t => rw [hl] at h; cases h
    | none =>
      unfold looseO at hl
      rw [List.find?_eq_none] at hl
      intro t ht
      simpa using hl t ht
theorem clause_parts {c : Clause} (h : clauseW c = 0) : atomW c.1 = 0 ∧ ∀ x ∈ c.2, litW x = 0 := by
  unfold clauseW at h
  split at h
  · rename_i ha
    split at h
    · cases h
    · exact ⟨ha, firstW_all0 h⟩
  · rename_i ha; exact absurd h ha
theorem rule_back {P : List Pred} {C : List Const} {n : Int} {c : Clause} (hn : ClauseN c) (hc : ∀ t ∈ termsC c, t.1 ≠ 4 → cnst t ∈ C) (hp : ∀ a ∈ atomsC c, a.1 ∈ P.map (·.1)) : ruleB P C (ruleC P C n c) = (chainF c, 0) := by
  obtain ⟨hw1, hw2⟩ := clause_parts hn.w
  have hlo := looseC_none hn.bound
  have hI : ∀ x ∈ c.2, LitI P C x := fun x hx => ⟨hw2 x hx, fun t ht => hc t (by unfold termsC; exact List.mem_append.2 (.inr (List.mem_flatMap.2 ⟨x, hx, ht⟩))), fun hk => hp x.2.1 (by unfold atomsC atomsL; exact List.mem_cons_of_mem _ (List.mem_map.2 ⟨x, List.mem_filter.2 ⟨hx, hk⟩, rfl⟩))⟩
  have hask : ∀ x ∈ c.2, ∀ t ∈ askL x, looseB (varsF c.2) t = false := fun x hx t ht => hlo t (by unfold allTerms; exact List.mem_append.2 (.inr (List.mem_flatMap.2 ⟨x, hx, ht⟩)))
  have h1 := atom_pat (P := P) (C := C) (V := varsF c.2) (a := c.1) (hp c.1 (by unfold atomsC; exact List.mem_cons_self ..)) (fun t ht => ⟨atomW_terms hw1 t ht, hc t (by unfold termsC; exact List.mem_append.2 (.inl ht))⟩) (fun t ht => hlo t (by unfold allTerms; exact List.mem_append.2 (.inl ht)))
  have h2 : partsB P C (ruleC P C n c) = (kindL 1 c.2 ++ (kindL 3 c.2 ++ kindL 2 c.2)).map some := by
    show (posF P C [] c.2).map (litB 1 P C (varsF c.2)) ++ ((testsF C (varsF c.2) c.2).map (testB C (varsF c.2)) ++ (negsF P C (varsF c.2) c.2).map (litB 2 P C (varsF c.2))) = _
    rw [List.map_append, List.map_append, posF_ok (V := varsF c.2) c.2 [] (List.prefix_refl _) hI, tests_ok c.2 hI hask, negs_ok c.2 hI hask]
  unfold ruleB
  rw [h2, mapS_id]
  have h1 : atomB P C (ruleC P C n c).2.2.2.2.1 (ruleC P C n c).1 = some (bareA c.1) := h1
  rw [h1]; rfl
end Edict
