/- Of what is accepted: the variables are bound and numbered: plainly. -/
import Derived.Test.YtkobamedfbgjbaaKrQ
namespace Edict
/-- A rule's variables: no name but _ twice. -/
def uniq (vs : Strs) : Prop := ∀ i s, vs[i]? = some s → s ≠ [95] → s ∉ vs.take i
theorem uniq_varT {vs : Strs} (h : uniq vs) (t : Term) : uniq (varT vs t) := by
  unfold varT
  split
  · rename_i hc
    intro i s hs h95
    by_cases hi : i < vs.length
    · rw [List.getElem?_append_left hi] at hs
      rw [List.take_append_of_le_length (by omega)]
      exact h i s hs h95
    · have hl := (List.getElem?_eq_some_iff.1 hs).1
      simp only [List.length_append, List.length_singleton] at hl
      obtain rfl : i = vs.length := by omega
      rw [List.getElem?_append_right (Nat.le_refl _), Nat.sub_self] at hs
      simp only [List.getElem?_cons_zero, Option.some.injEq] at hs
      subst hs
      rw [List.take_append_of_le_length (Nat.le_refl _), List.take_length]
      exact hc.2.elim (fun h => absurd h h95) id
  · exact h
theorem uniq_fold : ∀ (l : List Term) {vs : Strs}, uniq vs → uniq (l.foldl varT vs)
  | [], _, h => h
  | t :: l, _, h => uniq_fold l (uniq_varT h t)
theorem uniq_vars (ls : List Literal) : uniq (varsF ls) := by
  have : varsF ls = (ls.flatMap posT).foldl varT [] := varL_pos _ _
  rw [this]
  exact uniq_fold _ (fun i s h => by simp at h)
/-- What numbered does: next behind a list of slots; none where it says no. -/
def numS : Nat → List Slot → Option Nat
  | n, [] => some n
  | n, s :: l => if s.1 then (if s.2 < 0 ∨ (n : Int) < s.2 then none else numS (if s.2 = n then n + 1 else n) l) else numS n l
def numP : Nat → List Pattern → Option Nat
  | n, [] => some n
  | n, p :: l => match numS n p.2 with
    | some m => numP m l
    | none => none
theorem lastI_bound {vs : Strs} {s : Byts} (h : s ∈ vs) : 0 ≤ lastI vs s ∧ lastI vs s < vs.length := by
  unfold lastI lastL
  rw [if_pos h, Option.getD_some]
  have h2 := List.idxOf_lt_length_of_mem (List.mem_reverse.2 h)
  rw [List.length_reverse] at h2
  omega
theorem slotP_num (cs : List Const) (vs : Strs) (t : Term) : (t.1 = 4 ∧ (slotP cs vs t).1 = true ∧ 0 ≤ (slotP cs vs t).2 ∧ (((slotP cs vs t).2 = vs.length ∧ (varT vs t).length = vs.length + 1) ∨ ((slotP cs vs t).2 < vs.length ∧ varT vs t = vs))) ∨ (t.1 ≠ 4 ∧ (slotP cs vs t).1 = false ∧ varT vs t = vs) := by
  unfold slotP slotN
  by_cases h4 : t.1 = 4
  · refine .inl ⟨h4, by rw [if_pos h4], ?_⟩
    rw [if_pos h4]
    by_cases hn : t.2.2.1 = [95] ∨ t.2.2.1 ∉ vs
    · have hv : varT vs t = vs ++ [t.2.2.1] := by unfold varT; rw [if_pos ⟨h4, hn⟩]
      have hl : lastI (varT vs t) t.2.2.1 = vs.length := by rw [hv]; unfold lastI; rw [lastL_snoc, if_pos rfl]; rfl
      rw [hl, hv]
      exact ⟨by simp, .inl ⟨rfl, by simp⟩⟩
    · have hv : varT vs t = vs := by unfold varT; rw [if_neg (fun h => hn h.2)]
      rw [hv]
      have hin : t.2.2.1 ∈ vs := Classical.byContradiction fun h => hn (.inr h)
      have hb := lastI_bound hin
      exact ⟨hb.1, .inr ⟨hb.2, rfl⟩⟩
  · refine .inr ⟨h4, by rw [if_neg h4], ?_⟩
    unfold varT; rw [if_neg (fun h => h4 h.1)]
theorem numS_ok (cs : List Const) : ∀ (ts : List Term) (vs : Strs), numS vs.length (slotsP cs vs ts) = some (ts.foldl varT vs).length
  | [], _ => rfl
  | t :: l, vs => by
    rw [List.foldl_cons]
    have ih := numS_ok cs l (varT vs t)
    unfold slotsP numS
    rcases slotP_num cs vs t with ⟨-, h1, h2, (⟨h3, h4⟩ | ⟨h3, h4⟩)⟩ | ⟨-, h1, h2⟩
    · rw [h1, if_pos rfl, if_neg (by omega), if_pos h3, ← h4]; exact ih
    · rw [h1, if_pos rfl, if_neg (by omega), if_neg (by omega)]
      rw [h4] at ih ⊢
      exact ih
    · rw [h1]
      rw [h2] at ih ⊢
      exact ih
theorem numP_ok (ps : List Pred) (cs : List Const) : ∀ (ls : List Literal) (vs : Strs), numP vs.length (posF ps cs vs ls) = some (ls.foldl varL vs).length
  | [], _ => rfl
  | x :: l, vs => by
    rw [List.foldl_cons]
    unfold posF
    by_cases h1 : x.1 = 1
    · rw [if_pos h1]
      unfold numP
      rw [numS_ok]
      have hv : varL vs x = x.2.1.2.1.foldl varT vs := by unfold varL; rw [if_pos h1]
      rw [hv, ← hv]
      exact numP_ok ps cs l (varL vs x)
    · rw [if_neg h1]
      have hv : varL vs x = vs := by unfold varL; rw [if_neg h1]
      rw [hv]
      exact numP_ok ps cs l vs
/-- All variables' numbers below n. -/
def belowB (n : Nat) (l : List Slot) : Bool := l.all fun s => !(s.1 && (decide (s.2 < 0) || decide ((n : Int) ≤ s.2)))
theorem below_one {cs : List Const} {vs : Strs} {t : Term} (h : looseB vs t = false) : (!((slotN cs vs t).1 && (decide ((slotN cs vs t).2 < 0) || decide ((vs.length : Int) ≤ (slotN cs vs t).2)))) = true := by
  unfold slotN
  by_cases h4 : t.1 = 4
  · rw [if_pos h4]
    unfold looseB at h
    rw [decide_eq_true h4, Bool.true_and, Bool.or_eq_false_iff, decide_eq_false_iff_not, decide_eq_false_iff_not] at h
    have hb := lastI_bound (Classical.byContradiction h.2)
    simp; omega
  · rw [if_neg h4]; rfl
theorem below_list {cs : List Const} {vs : Strs} {l : List Term} (h : ∀ t ∈ l, looseB vs t = false) : belowB vs.length (l.map (slotN cs vs)) = true := by
  unfold belowB
  rw [List.all_eq_true]
  intro s hs
  obtain ⟨t, ht, rfl⟩ := List.mem_map.1 hs
  exact below_one (h t ht)
/-- A rule as bound wants it. -/
structure BoundR (r : Rule) : Prop where
  few : r.2.2.2.2.1.length ≤ 16
  num : numP 0 r.2.1 = some r.2.2.2.2.1.length
  head : belowB r.2.2.2.2.1.length r.1.2 = true
  neg : ∀ p ∈ r.2.2.2.1, belowB r.2.2.2.2.1.length p.2 = true
  test : ∀ t ∈ r.2.2.1, belowB r.2.2.2.2.1.length [t.2.1, t.2.2] = true
  uniq : uniq r.2.2.2.2.1
theorem crowd_fold : ∀ {l : List Term} {vs : Strs}, crowdF vs l = none → vs.length ≤ 16 → (l.foldl varT vs).length ≤ 16
  | [], _, _, h => h
  | t :: l, vs, hc, h => by
    rw [crowdF] at hc
    split at hc
    · cases hc
    · rw [List.foldl_cons]; exact crowd_fold hc (by omega)
theorem undT_sub : ∀ (ls : List Literal), undT (ls.flatMap posT) ≤ undT (ls.flatMap termsL)
  | [] => Nat.le_refl _
  | x :: l => by
    rw [List.flatMap_cons, List.flatMap_cons, undT_app, undT_app]
    have := undT_sub l
    rcases terms_cases x with ⟨-, h1, h2⟩ | ⟨-, h1, h2⟩
    · rw [h1, h2]; omega
    · rw [h2]
      have : undT ([] : List Term) = 0 := rfl
      omega
theorem fold_sub {ts ps : List Term} (hu : undT ps ≤ undT ts) (hm : ∀ t ∈ ps, t ∈ ts) : (ps.foldl varT []).length ≤ (ts.foldl varT []).length := by
  rw [und_oth (ts.foldl varT []), und_oth (ps.foldl varT []), und_fold, und_fold]
  have := nodup_le (A := oth (ps.foldl varT [])) (B := oth (ts.foldl varT [])) (oth_nodup ps [] (by simp [oth])) (fun s hs => by
    unfold oth at hs ⊢
    obtain ⟨h1, h2⟩ := List.mem_filter.1 hs
    refine List.mem_filter.2 ⟨?_, h2⟩
    rcases mem_fold h1 with h | ⟨t, ht, h4, h5⟩
    · simp at h
    · rw [← h5]; exact fold_mem (hm t ht) h4)
  omega
theorem boundC_some {c : Clause} (h : boundC c = (0, 0, 0)) : crowdF [] (termsC c) = none ∧ looseO c = none := by
  unfold boundC at h
  cases hc : crowdF [] (termsC c) with
  | some t => rw [hc] at h; cases h
  | none =>
    rw [hc] at h
    cases hl : looseO c with
    | some t => rw [hl] at h; cases h
    | none => exact ⟨rfl, rfl⟩
theorem bound_rule {ps : List Pred} {cs : List Const} {n : Int} {c : Clause} (h : boundC c = (0, 0, 0)) : BoundR (ruleC ps cs n c) := by
  obtain ⟨hc, hl⟩ := boundC_some h
  have hv : varsF c.2 = (c.2.flatMap posT).foldl varT [] := varL_pos _ _
  have hlo : ∀ t ∈ allTerms c, looseB (varsF c.2) t = false := by
    unfold looseO at hl
    rw [List.find?_eq_none] at hl
    intro t ht
    simpa using hl t ht
  have hask : ∀ x ∈ c.2, ∀ t ∈ askL x, looseB (varsF c.2) t = false := fun x hx t ht => hlo t (by unfold allTerms; exact List.mem_append.2 (.inr (List.mem_flatMap.2 ⟨x, hx, ht⟩)))
  refine ⟨?_, ?_, ?_, ?_, ?_, uniq_vars _⟩
  · show (varsF c.2).length ≤ 16
    refine Nat.le_trans ?_ (crowd_fold hc (Nat.zero_le _))
    rw [hv]
    refine fold_sub ?_ fun t ht => ?_
    · unfold termsC; rw [undT_app]
      have := undT_sub c.2; omega
    · obtain ⟨x, hx, ht⟩ := List.mem_flatMap.1 ht
      unfold termsC
      refine List.mem_append.2 (.inr (List.mem_flatMap.2 ⟨x, hx, ?_⟩))
      rcases terms_cases x with ⟨-, h1, h2⟩ | ⟨-, h1, h2⟩
      · rw [h1, ← h2]; exact ht
      · rw [h2] at ht; simp at ht
  · exact numP_ok ps cs c.2 []
  · exact below_list fun t ht => hlo t (by unfold allTerms; exact List.mem_append.2 (.inl ht))
  · intro p hp
    unfold ruleC ruleF negsF at hp
    obtain ⟨x, hx, rfl⟩ := List.mem_map.1 hp
    obtain ⟨hx, hk⟩ := List.mem_filter.1 hx
    have hk : x.1 = 2 := of_decide_eq_true hk
    refine below_list fun t ht => hask x hx t ?_
    unfold askL; rw [if_pos hk]; exact ht
  · intro t ht
    unfold ruleC ruleF testsF at ht
    obtain ⟨x, hx, rfl⟩ := List.mem_map.1 ht
    obtain ⟨hx, hk⟩ := List.mem_filter.1 hx
    have hk : x.1 = 3 := of_decide_eq_true hk
    have := below_list (cs := cs) (l := [x.2.2.2.1, x.2.2.2.2.1]) fun t ht => hask x hx t (by unfold askL; rw [if_neg (by omega), if_pos hk]; exact ht)
    exact this
/-- The rules of a core. -/
theorem rulesF_mem {ps : List Pred} {cs : List Const} : ∀ {l : List Clause} {st : List Rule × List Row} {n : Nat} {r : Rule}, r ∈ (rulesF ps cs st n l).1 → r ∈ st.1 ∨ ∃ c ∈ l, ∃ m : Nat, r = ruleC ps cs m c
  | [], _, _, _, h => .inl h
  | c :: l, st, n, r, h => by
    rcases rulesF_mem (l := l) (st := stepR ps cs st n c) (n := n + 1) h with h | ⟨d, hd, m, e⟩
    · unfold stepR at h
      split at h
      · exact .inl h
      · rcases List.mem_append.1 h with h | h
        · exact .inl h
        · exact .inr ⟨c, List.mem_cons_self .., n, List.mem_singleton.1 h⟩
    · exact .inr ⟨d, List.mem_cons_of_mem _ hd, m, e⟩
theorem boundF_all : ∀ {p : List Clause}, boundF p = (0, 0, 0) → ∀ c ∈ p, boundC c = (0, 0, 0)
  | [], _, c, h => by simp at h
  | d :: p, hb, c, h => by
    rw [boundF] at hb
    split at hb
    · rename_i hd
      rcases List.mem_cons.1 h with rfl | h
      · exact hd
      · exact boundF_all hb c h
    · rename_i hd; exact absurd hb hd
/-- What Build answers: a core whose rules are bound, or a fault with a code and no core. -/
theorem build_cases (p : List Clause) (fs : List Atom) : (buildF p fs).2 = (0, 0, 0) ∧ (∀ r ∈ (buildF p fs).1.2.2.1, BoundR r) ∨ (buildF p fs).2.1 ≠ 0 ∧ (buildF p fs).1 = core0 := by
  unfold buildF
  by_cases hf : formF p fs ≠ (0, 0, 0)
  · rw [if_pos hf]
    refine .inr ⟨?_, rfl⟩
    show (formF p fs).1 ≠ 0
    unfold formF at hf ⊢
    split
    · rename_i h; exact h
    · rename_i h
      rw [if_neg h] at hf
      split
      · decide
      · rename_i h4
        rw [if_neg h4] at hf
        cases hfd : fs.find? fun a => !grB a with
        | some a => simp
        | none =>
          rw [hfd] at hf
          simp only at hf ⊢
          split
          · simp
          · simp
          · split
            · simp
            · simp
            · rename_i h1 h2
              simp only [ne_eq] at hf
              exfalso
              apply hf
              split
              · rename_i q; exact absurd q (by intro q; simp_all)
              · rename_i q; exact absurd q (by intro q; simp_all)
              · split
                · rename_i q; exact absurd q (by intro q; simp_all)
                · rename_i q; exact absurd q (by intro q; simp_all)
                · rfl
  · rw [if_neg hf]
    by_cases hb : boundF p ≠ (0, 0, 0)
    · rw [if_pos hb]
      refine .inr ⟨?_, rfl⟩
      show (boundF p).1 ≠ 0
      have : ∀ q : List Clause, boundF q ≠ (0, 0, 0) → (boundF q).1 ≠ 0 := by
        intro q
        induction q with
        | nil => intro h; exact absurd rfl h
        | cons c q ih =>
          intro h
          rw [boundF] at h ⊢
          split
          · rename_i hc
            rw [if_pos hc] at h
            exact ih h
          · rename_i hc
            unfold boundC at hc ⊢
            cases hcr : crowdF [] (termsC c) with
            | some t => simp
            | none =>
              rw [hcr] at hc
              cases hlo : looseO c with
              | some t => simp
              | none => rw [hlo] at hc; exact absurd rfl hc
      exact this p hb
    · rw [if_neg hb]
      have hb0 : boundF p = (0, 0, 0) := Classical.byContradiction hb
      generalize takeF ([], []) p = r
      obtain ⟨⟨ps, cs⟩, o⟩ := r
      cases o with
      | some t => exact .inr ⟨(by decide : (6 : Int) ≠ 0), rfl⟩
      | none =>
        simp only
        generalize takeA cs fs = q
        obtain ⟨cs', o⟩ := q
        cases o with
        | some t => exact .inr ⟨(by decide : (6 : Int) ≠ 0), rfl⟩
        | none =>
          refine .inl ⟨rfl, fun r hr => ?_⟩
          rcases rulesF_mem hr with hr | ⟨c, hc, m, rfl⟩
          · simp at hr
          · exact bound_rule (boundF_all hb0 c hc)
/-- How many clauses have a body. -/
def bodN (p : List Clause) : Nat := (p.filter fun c => !c.2.isEmpty).length
theorem rules_count {ps : List Pred} {cs : List Const} : ∀ (l : List Clause) (st : List Rule × List Row) (n : Nat), (rulesF ps cs st n l).1.length = st.1.length + bodN l
  | [], _, _ => rfl
  | c :: l, st, n => by
    have ih := rules_count (ps := ps) (cs := cs) l (stepR ps cs st n c) (n + 1)
    show (rulesF ps cs (stepR ps cs st n c) (n + 1) l).1.length = _
    rw [ih]
    unfold stepR bodN
    by_cases hc : c.2 = []
    · rw [if_pos hc, List.filter_cons_of_neg (by simp [hc])]
    · rw [if_neg hc, List.filter_cons_of_pos (by simp [hc])]
      simp only [List.length_append, List.length_cons, List.length_nil]; omega
/-- works: the program p(X) :- q(X). -/
def wX : Term := (4, 0, [88], 0)
def wC : Clause := (([112], [wX], 0), [(1, ([113], [wX], 0), 0, zterm, zterm, 0)])
theorem works_ok : (buildF [wC] []).2 = (0, 0, 0) ∧ (buildF [wC] []).1.1.length = 2 ∧ ∃ r, (buildF [wC] []).1.2.2.1 = [r] ∧ r.2.2.2.2.1.length = 1 := by
  refine ⟨by decide +kernel, by decide +kernel, _, rfl, by decide +kernel⟩
end Edict
