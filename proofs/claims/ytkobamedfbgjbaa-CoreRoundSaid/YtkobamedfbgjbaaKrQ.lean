/- A program that is made right is accepted: plainly. -/
import Derived.Test.YtkobamedfbgjbaaKrP
namespace Edict
/-! ### Bodies -/
theorem varL_litM (ws vs : Strs) (l : Literal) : varL vs (litM ws vs l) = litV vs l := by
  unfold litM litV
  by_cases h1 : l.1 % 4 < 2
  · rw [if_pos h1, if_pos h1]
    unfold varL litP atomV atomM
    rw [if_pos rfl, if_pos rfl]
    exact free_vars _ _
  · rw [if_neg h1, if_neg h1]
    by_cases h2 : l.1 % 4 = 2
    · rw [if_pos h2]; unfold varL; rw [if_neg (by simp)]
    · rw [if_neg h2]; unfold varL; rw [if_neg (by simp)]
theorem varsL_body (ws : Strs) : ∀ (ls : List Literal) (vs : Strs), (bodyL (litM ws) vs ls).foldl varL vs = ls.foldl litV vs
  | [], _ => rfl
  | l :: r, vs => by simp only [bodyL, List.foldl_cons, varL_litM]; exact varsL_body ws r _
theorem varsF_body (ls : List Literal) : varsF (bodyM ls) = bodyV ls := varsL_body _ _ _
theorem bodyL_len (f : Strs → Literal → Literal) : ∀ (ls : List Literal) (vs : Strs), (bodyL f vs ls).length = ls.length
  | [], _ => rfl
  | l :: r, vs => by simp [bodyL, bodyL_len f r]
theorem bodyL_mem {f : Strs → Literal → Literal} : ∀ {ls : List Literal} {vs : Strs} {x : Literal}, x ∈ bodyL f vs ls → ∃ vs' l, l ∈ ls ∧ x = f vs' l
  | [], _, _, h => by simp [bodyL] at h
  | l :: r, vs, x, h => by
    rcases List.mem_cons.1 h with rfl | h
    · exact ⟨vs, l, List.mem_cons_self .., rfl⟩
    · obtain ⟨vs', y, hy, e⟩ := bodyL_mem h
      exact ⟨vs', y, List.mem_cons_of_mem _ hy, e⟩
theorem litV_len {vs : Strs} (h : vs.length ≤ 16) (l : Literal) : (litV vs l).length ≤ 16 := by
  unfold litV; split
  · exact freesV_len _ h
  · exact h
theorem litsV_len : ∀ (ls : List Literal) {vs : Strs}, vs.length ≤ 16 → (ls.foldl litV vs).length ≤ 16
  | [], _, h => h
  | l :: r, _, h => litsV_len r (litV_len h l)
theorem bodyV_len (ls : List Literal) : (bodyV ls).length ≤ 16 := litsV_len _ (Nat.zero_le _)
def LitT (ws : Strs) (x : Literal) : Prop := ∀ t ∈ askL x, Tied ws t
theorem litM_t (ws vs : Strs) (l : Literal) : LitT ws (litM ws vs l) := by
  intro t ht
  unfold litM at ht
  by_cases h1 : l.1 % 4 < 2
  · rw [if_pos h1] at ht
    unfold askL at ht
    rw [if_neg (by simp [litP]), if_neg (by simp [litP])] at ht
    simp at ht
  · rw [if_neg h1] at ht
    by_cases h2 : l.1 % 4 = 2
    · rw [if_pos h2] at ht
      unfold askL argsOf atomM at ht
      simp only [if_true, Bool.false_eq_true, if_false, List.mem_map] at ht
      obtain ⟨x, -, rfl⟩ := ht
      exact tied_ok ws x
    · rw [if_neg h2] at ht
      unfold askL at ht
      rw [if_neg (by simp), if_pos rfl] at ht
      simp only [List.mem_cons, List.not_mem_nil, or_false] at ht
      rcases ht with rfl | rfl
      · exact tied_ok ws _
      · exact tied_ok ws _
/-! ### At most sixteen variables -/
theorem varT_ge (vs : Strs) (t : Term) : vs.length ≤ (varT vs t).length := by unfold varT; split <;> simp
theorem varsT_ge : ∀ (l : List Term) (vs : Strs), vs.length ≤ (l.foldl varT vs).length
  | [], _ => Nat.le_refl _
  | t :: l, vs => Nat.le_trans (varT_ge vs t) (varsT_ge l _)
theorem crowd_none : ∀ (l : List Term) (vs : Strs), (l.foldl varT vs).length ≤ 16 → crowdF vs l = none
  | [], _, _ => rfl
  | t :: l, vs, h => by
    have h1 := varsT_ge l (varT vs t)
    simp only [List.foldl_cons] at h
    rw [crowdF, if_neg (by omega)]
    exact crowd_none l _ h
def und (l : Strs) : Nat := (l.filter fun s => decide (s = [95])).length
def oth (l : Strs) : Strs := l.filter fun s => !decide (s = [95])
def undT (l : List Term) : Nat := (l.filter fun t => decide (t.1 = 4) && decide (t.2.2.1 = [95])).length
theorem und_oth : ∀ l : Strs, l.length = und l + (oth l).length
  | [] => rfl
  | s :: l => by
    have := und_oth l
    unfold und oth at this ⊢
    by_cases h : s = [95]
    · rw [List.filter_cons_of_pos (by simp [h]), List.filter_cons_of_neg (by simp [h])]; simp only [List.length_cons]; omega
    · rw [List.filter_cons_of_neg (by simp [h]), List.filter_cons_of_pos (by simp [h])]; simp only [List.length_cons]; omega
theorem und_app (a b : Strs) : und (a ++ b) = und a + und b := by unfold und; rw [List.filter_append, List.length_append]
theorem undT_app (a b : List Term) : undT (a ++ b) = undT a + undT b := by unfold undT; rw [List.filter_append, List.length_append]
theorem und_fold : ∀ (ts : List Term) (vs : Strs), und (ts.foldl varT vs) = und vs + undT ts
  | [], vs => by simp [undT]
  | t :: l, vs => by
    rw [List.foldl_cons, und_fold l, show t :: l = [t] ++ l from rfl, undT_app]
    have : und (varT vs t) = und vs + undT [t] := by
      unfold varT
      by_cases h4 : t.1 = 4
      · by_cases h5 : t.2.2.1 = [95]
        · rw [if_pos ⟨h4, .inl h5⟩, und_app]; simp [und, undT, h4, h5]
        · have hz : undT [t] = 0 := by simp [undT, h5]
          rw [hz]
          split
          · rw [und_app]; simp [und, h5]
          · rfl
      · have hz : undT [t] = 0 := by simp [undT, h4]
        rw [hz, if_neg (fun h => h4 h.1)]; rfl
    omega
theorem oth_nodup : ∀ (ts : List Term) (vs : Strs), (oth vs).Nodup → (oth (ts.foldl varT vs)).Nodup
  | [], _, h => h
  | t :: l, vs, h => by
    rw [List.foldl_cons]
    refine oth_nodup l _ ?_
    unfold varT
    split
    · rename_i hc
      by_cases h5 : t.2.2.1 = [95]
      · have : oth (vs ++ [t.2.2.1]) = oth vs := by unfold oth; rw [List.filter_append]; simp [h5]
        rw [this]; exact h
      · have : oth (vs ++ [t.2.2.1]) = oth vs ++ [t.2.2.1] := by unfold oth; rw [List.filter_append]; simp [h5]
        rw [this]
        have hn : t.2.2.1 ∉ vs := hc.2.elim (fun h => absurd h h5) id
        refine List.nodup_append.2 ⟨h, by simp, fun a ha b hb => ?_⟩
        simp only [List.mem_singleton] at hb
        subst hb
        rintro rfl
        unfold oth at ha
        exact hn (List.mem_filter.1 ha).1
    · exact h
theorem mem_fold : ∀ {ts : List Term} {vs : Strs} {s : Byts}, s ∈ ts.foldl varT vs → s ∈ vs ∨ ∃ t ∈ ts, t.1 = 4 ∧ t.2.2.1 = s
  | [], _, _, h => .inl h
  | t :: l, vs, s, h => by
    rw [List.foldl_cons] at h
    rcases mem_fold h with h | ⟨x, hx, h1, h2⟩
    · unfold varT at h
      split at h
      · rename_i hc
        rcases List.mem_append.1 h with h | h
        · exact .inl h
        · exact .inr ⟨t, List.mem_cons_self .., hc.1, (List.mem_singleton.1 h).symm⟩
      · exact .inl h
    · exact .inr ⟨x, List.mem_cons_of_mem _ hx, h1, h2⟩
theorem fold_keep : ∀ {ts : List Term} {vs : Strs} {s : Byts}, s ∈ vs → s ∈ ts.foldl varT vs
  | [], _, _, h => h
  | t :: l, vs, s, h => by
    rw [List.foldl_cons]
    refine fold_keep ?_
    unfold varT; split
    · exact List.mem_append.2 (.inl h)
    · exact h
theorem fold_mem : ∀ {ts : List Term} {vs : Strs} {t : Term}, t ∈ ts → t.1 = 4 → t.2.2.1 ∈ ts.foldl varT vs
  | x :: l, vs, t, h, h4 => by
    rw [List.foldl_cons]
    rcases List.mem_cons.1 h with rfl | h
    · refine fold_keep ?_
      unfold varT
      by_cases hv : t.2.2.1 ∈ vs
      · split
        · exact List.mem_append.2 (.inl hv)
        · exact hv
      · rw [if_pos ⟨h4, .inr hv⟩]; simp
    · exact fold_mem h h4
theorem nodup_le {α : Type} [DecidableEq α] : ∀ {A B : List α}, A.Nodup → (∀ s ∈ A, s ∈ B) → A.length ≤ B.length
  | [], _, _, _ => Nat.zero_le _
  | a :: A, B, hn, hs => by
    rw [List.nodup_cons] at hn
    have ha := hs a (List.mem_cons_self ..)
    have h1 := nodup_le (A := A) (B := B.erase a) hn.2 (fun s h => (List.mem_erase_of_ne (by rintro rfl; exact hn.1 h)).2 (hs s (List.mem_cons_of_mem _ h)))
    rw [List.length_erase_of_mem ha] at h1
    have := List.length_pos_of_mem ha
    simp only [List.length_cons]; omega
theorem crowd_le {ts ps : List Term} (hu : undT ts = undT ps) (hm : ∀ t ∈ ts, t.1 = 4 → t.2.2.1 = [95] ∨ t.2.2.1 ∈ ps.foldl varT []) : (ts.foldl varT []).length ≤ (ps.foldl varT []).length := by
  rw [und_oth (ts.foldl varT []), und_oth (ps.foldl varT []), und_fold, und_fold, hu]
  have := nodup_le (A := oth (ts.foldl varT [])) (B := oth (ps.foldl varT [])) (oth_nodup ts [] (by simp [oth])) (fun s hs => by
    unfold oth at hs ⊢
    obtain ⟨h1, h2⟩ := List.mem_filter.1 hs
    refine List.mem_filter.2 ⟨?_, h2⟩
    rcases mem_fold h1 with h | ⟨t, ht, h4, h5⟩
    · simp at h
    · rcases hm t ht h4 with h | h
      · rw [h5] at h; simp [h] at h2
      · rw [h5] at h; exact h)
  omega
def posT (x : Literal) : List Term := if x.1 = 1 then argsOf x else []
theorem varL_pos : ∀ (ls : List Literal) (vs : Strs), ls.foldl varL vs = (ls.flatMap posT).foldl varT vs
  | [], _ => rfl
  | x :: l, vs => by
    rw [List.foldl_cons, varL_pos l, List.flatMap_cons, List.foldl_append]
    congr 1
    unfold varL posT argsOf; split <;> rfl
theorem undT_tied {ws : Strs} {l : List Term} (h : ∀ t ∈ l, Tied ws t) : undT l = 0 := by
  unfold undT
  rw [List.length_eq_zero_iff, List.filter_eq_nil_iff]
  intro t ht
  simp only [Bool.and_eq_true, decide_eq_true_eq, not_and]
  exact fun h4 => ((h t ht).2 h4).1
theorem terms_cases (x : Literal) : (x.1 = 1 ∧ termsL x = argsOf x ∧ posT x = argsOf x) ∨ (x.1 ≠ 1 ∧ termsL x = askL x ∧ posT x = []) := by
  by_cases h : x.1 = 1
  · refine .inl ⟨h, ?_, ?_⟩
    · unfold termsL; rw [if_pos (.inl h)]
    · unfold posT; rw [if_pos h]
  · refine .inr ⟨h, ?_, ?_⟩
    · unfold termsL askL
      by_cases h2 : x.1 = 2
      · rw [if_pos (.inr h2), if_pos h2]
      · rw [if_neg (by omega), if_neg h2]
    · unfold posT; rw [if_neg h]
theorem undT_body {ws : Strs} : ∀ {ls : List Literal}, (∀ x ∈ ls, LitT ws x) → undT (ls.flatMap termsL) = undT (ls.flatMap posT)
  | [], _ => rfl
  | x :: l, h => by
    rw [List.flatMap_cons, List.flatMap_cons, undT_app, undT_app, undT_body (ls := l) (fun y hy => h y (List.mem_cons_of_mem _ hy))]
    congr 1
    rcases terms_cases x with ⟨-, h1, h2⟩ | ⟨-, h1, h2⟩
    · rw [h1, h2]
    · rw [h1, h2, undT_tied (h x (List.mem_cons_self ..))]; rfl
theorem bound_ok {c : Clause} (hh : ∀ t ∈ c.1.2.1, Tied (varsF c.2) t) (hb : ∀ x ∈ c.2, LitT (varsF c.2) x) (h16 : (varsF c.2).length ≤ 16) : boundC c = (0, 0, 0) := by
  have hv : varsF c.2 = (c.2.flatMap posT).foldl varT [] := varL_pos _ _
  have hc : crowdF [] (termsC c) = none := by
    refine crowd_none _ _ (Nat.le_trans ?_ h16)
    rw [hv]
    refine crowd_le ?_ ?_
    · unfold termsC; rw [undT_app, undT_tied hh, undT_body hb, Nat.zero_add]
    · intro t ht h4
      rw [← hv]
      unfold termsC at ht
      rcases List.mem_append.1 ht with ht | ht
      · exact .inr ((hh t ht).2 h4).2
      · obtain ⟨x, hx, ht⟩ := List.mem_flatMap.1 ht
        rcases terms_cases x with ⟨-, h1, h2⟩ | ⟨-, h1, h2⟩
        · rw [h1, ← h2] at ht
          rw [hv]
          exact .inr (fold_mem (List.mem_flatMap.2 ⟨x, hx, ht⟩) h4)
        · rw [h1] at ht
          exact .inr ((hb x hx t ht).2 h4).2
  have hl : looseO c = none := by
    unfold looseO
    rw [List.find?_eq_none]
    intro t ht
    unfold allTerms at ht
    have hT : Tied (varsF c.2) t := by
      rcases List.mem_append.1 ht with ht | ht
      · exact hh t ht
      · obtain ⟨x, hx, ht⟩ := List.mem_flatMap.1 ht
        exact hb x hx t ht
    unfold looseB
    intro h
    simp only [Bool.and_eq_true, Bool.or_eq_true, decide_eq_true_eq] at h
    have := hT.2 h.1
    exact h.2.elim this.1 (fun h => h this.2)
  unfold boundC
  rw [hc]; simp only; rw [hl]
/-! ### Clauses -/
structure ClauseN (c : Clause) : Prop where
  w : clauseW c = 0
  names : ∀ a ∈ atomsC c, AtomN a
  bound : boundC c = (0, 0, 0)
theorem clauseM_n (c : Clause) : ClauseN (clauseM c) := by
  have hv : varsF (clauseM c).2 = bodyV c.2 := varsF_body _
  refine ⟨?_, ?_, ?_⟩
  · unfold clauseW clauseM
    rw [if_pos (atomM_w _ _ _), if_neg]
    · refine firstW_zero fun x hx => ?_
      obtain ⟨vs, l, -, rfl⟩ := bodyL_mem hx
      exact litM_w _ _ _
    · unfold bodyM
      rw [bodyL_len, List.length_take]; omega
  · intro a ha
    unfold atomsC at ha
    rcases List.mem_cons.1 ha with rfl | ha
    · exact atomM_n _ _ _
    · unfold atomsL at ha
      obtain ⟨x, hx, rfl⟩ := List.mem_map.1 ha
      obtain ⟨hx, hk⟩ := List.mem_filter.1 hx
      obtain ⟨vs, l, -, rfl⟩ := bodyL_mem hx
      unfold litM at hk ⊢
      by_cases h1 : l.1 % 4 < 2
      · rw [if_pos h1]; exact atomM_n _ _ _
      · rw [if_neg h1] at hk ⊢
        by_cases h2 : l.1 % 4 = 2
        · rw [if_pos h2]; exact atomM_n _ _ _
        · rw [if_neg h2] at hk; simp [isA] at hk
  · refine bound_ok ?_ ?_ ?_
    · rw [hv]
      intro t ht
      unfold clauseM atomM at ht
      simp only [Bool.false_eq_true, if_false, List.mem_map] at ht
      obtain ⟨x, -, rfl⟩ := ht
      exact tied_ok _ x
    · rw [hv]
      intro x hx
      obtain ⟨vs, l, -, rfl⟩ := bodyL_mem hx
      exact litM_t _ _ _
    · rw [hv]; exact bodyV_len _
structure FactN (a : Atom) : Prop where
  g : grB a = true
  n : AtomN a
theorem given_n (a : Atom) : FactN (atomM false [] a) := by
  refine ⟨?_, atomM_n _ _ _⟩
  unfold grB
  rw [Bool.and_eq_true, decide_eq_true_eq, List.all_eq_true]
  refine ⟨atomM_w _ _ _, fun t ht => ?_⟩
  unfold atomM at ht
  simp only [Bool.false_eq_true, if_false, List.mem_map] at ht
  obtain ⟨x, -, rfl⟩ := ht
  simp [tied_nil]
/-! ### Accepted -/
def PredN (x : Pred) : Prop := ∃ c n : Nat, ((97 ≤ c ∧ c ≤ 109) ∨ c = 122) ∧ n ≤ 8 ∧ x = ([UInt8.ofNat c, UInt8.ofNat (48 + n)], (n : Int))
def allN : Strs := (List.range 14).flatMap fun i => (List.range 9).map fun n => [UInt8.ofNat (if i = 13 then 122 else 97 + i), UInt8.ofNat (48 + n)]
theorem allN_len : allN.length = 126 := by simp [allN, List.length_flatMap]; rfl
theorem predN_mem {x : Pred} (h : PredN x) : x.1 ∈ allN := by
  obtain ⟨c, n, hc, hn, rfl⟩ := h
  unfold allN
  refine List.mem_flatMap.2 ⟨if c = 122 then 13 else c - 97, List.mem_range.2 (by split <;> omega), List.mem_map.2 ⟨n, List.mem_range.2 (by omega), ?_⟩⟩
  by_cases h : c = 122
  · rw [if_pos h, if_pos rfl, h]
  · rw [if_neg h, if_neg (by omega), show 97 + (c - 97) = c by omega]
theorem predN_few {ps : List Pred} (h : ∀ x ∈ ps, PredN x) (hn : (ps.map (·.1)).Nodup) : ps.length ≤ 126 := by
  have := nodup_le (A := ps.map (·.1)) (B := allN) hn (fun s hs => by
    obtain ⟨x, hx, rfl⟩ := List.mem_map.1 hs
    exact predN_mem (h x hx))
  rwa [List.length_map, allN_len] at this
theorem arOf_none {ps : List Pred} {s : Byts} : arOf ps s = none ↔ s ∉ ps.map (·.1) := by
  unfold arOf
  rw [Option.map_eq_none_iff, List.find?_eq_none]
  constructor
  · rintro h hs
    obtain ⟨x, hx, rfl⟩ := List.mem_map.1 hs
    exact h x hx (by simp)
  · intro h x hx
    simp only [decide_eq_true_eq]
    rintro rfl
    exact h (List.mem_map.2 ⟨x, hx, rfl⟩)
theorem arOf_some {ps : List Pred} {s : Byts} {n : Int} (h : arOf ps s = some n) : (s, n) ∈ ps := by
  unfold arOf at h
  rw [Option.map_eq_some_iff] at h
  obtain ⟨x, hx, rfl⟩ := h
  have h1 := List.find?_some hx
  simp only [decide_eq_true_eq] at h1
  subst h1
  exact List.mem_of_find?_eq_some hx
theorem namT_n {ps : List Pred} {a : Atom} (h : ∀ x ∈ ps, PredN x) (hn : (ps.map (·.1)).Nodup) (ha : AtomN a) : (∀ x ∈ namT ps a, PredN x) ∧ ((namT ps a).map (·.1)).Nodup := by
  unfold namT
  split
  · exact ⟨h, hn⟩
  · rename_i hna
    refine ⟨fun x hx => ?_, ?_⟩
    · rcases List.mem_append.1 hx with hx | hx
      · exact h x hx
      · obtain ⟨c, hc, hl, e⟩ := ha
        exact ⟨c, a.2.1.length, hc, hl, by rw [List.mem_singleton.1 hx, e]⟩
    · rw [List.map_append, List.map_cons, List.map_nil]
      refine List.nodup_append.2 ⟨hn, by simp, fun x hx y hy => ?_⟩
      simp only [List.mem_singleton] at hy
      subst hy
      rintro rfl
      exact hna hx
theorem names_n : ∀ {l : List Atom} {ps : List Pred}, (∀ x ∈ ps, PredN x) → (ps.map (·.1)).Nodup → (∀ a ∈ l, AtomN a) → (∀ x ∈ l.foldl namT ps, PredN x) ∧ ((l.foldl namT ps).map (·.1)).Nodup
  | [], _, h, hn, _ => ⟨h, hn⟩
  | a :: l, ps, h, hn, hl => by
    obtain ⟨h1, h2⟩ := namT_n h hn (hl a (List.mem_cons_self ..))
    rw [List.foldl_cons]
    exact names_n h1 h2 fun b hb => hl b (List.mem_cons_of_mem _ hb)
theorem predN_ar {x : Pred} {a : Atom} (h : PredN x) (ha : AtomN a) (e : x.1 = a.1) : x.2 = a.2.1.length := by
  obtain ⟨c, n, hc, hn, rfl⟩ := h
  obtain ⟨d, hd, hl, ea⟩ := ha
  simp only at e
  rw [ea] at e
  simp only [List.cons.injEq, and_true] at e
  have := congrArg UInt8.toNat e.2
  rw [ofNat_small (by omega), ofNat_small (by omega)] at this
  simp only; omega
theorem clash_ok : ∀ {l : List Atom} {ps : List Pred}, (∀ x ∈ ps, PredN x) → (ps.map (·.1)).Nodup → (∀ a ∈ l, AtomN a) → clashF ps l = (l.foldl namT ps, 0, 0)
  | [], _, _, _, _ => rfl
  | a :: l, ps, h, hn, hl => by
    have ha := hl a (List.mem_cons_self ..)
    obtain ⟨h1, h2⟩ := namT_n h hn ha
    have ih := clash_ok (l := l) h1 h2 fun b hb => hl b (List.mem_cons_of_mem _ hb)
    rw [List.foldl_cons]
    unfold clashF
    cases hr : arOf ps a.1 with
    | some n =>
      have hm := arOf_some hr
      have e := predN_ar (h _ hm) ha rfl
      have hk : namT ps a = ps := by unfold namT; rw [if_pos (List.mem_map.2 ⟨_, hm, rfl⟩)]
      simp only
      rw [if_pos e]
      rw [hk] at ih ⊢
      exact ih
    | none =>
      have hna := arOf_none.1 hr
      have hk : namT ps a = ps ++ [(a.1, (a.2.1.length : Int))] := by unfold namT; rw [if_neg hna]
      have := predN_few h hn
      simp only
      rw [if_neg (by omega), ← hk]
      exact ih
theorem valT_len (cs : List Const) (t : Term) : (valT cs t).length ≤ cs.length + 1 := by unfold valT; split <;> simp
theorem valsT_len : ∀ (l : List Term) (cs : List Const), (l.foldl valT cs).length ≤ cs.length + l.length
  | [], _ => Nat.le_refl _
  | t :: l, cs => by
    have h1 := valsT_len l (valT cs t)
    have h2 := valT_len cs t
    simp only [List.foldl_cons, List.length_cons]; omega
theorem valF_ok : ∀ (l : List Term) (cs : List Const), cs.length + l.length ≤ 65536 → valF cs l = (l.foldl valT cs, none)
  | [], _, _ => rfl
  | t :: l, cs, h => by
    have h2 := valT_len cs t
    simp only [List.length_cons] at h
    rw [valF, if_neg (fun q => by have := q.2.2; omega), List.foldl_cons]
    exact valF_ok l _ (by omega)
theorem takeF_ok : ∀ (p : List Clause) (ps : List Pred) (cs : List Const), cs.length + (p.flatMap termsC).length ≤ 65536 → takeF (ps, cs) p = (((p.flatMap atomsC).foldl namT ps, (p.flatMap termsC).foldl valT cs), none)
  | [], _, _, _ => rfl
  | c :: p, ps, cs, h => by
    simp only [List.flatMap_cons, List.length_append] at h
    have h2 := valsT_len (termsC c) cs
    rw [takeF, valF_ok _ _ (show cs.length + (termsC c).length ≤ 65536 by omega)]
    simp only
    rw [takeF_ok p _ _ (by omega), List.flatMap_cons, List.flatMap_cons, List.foldl_append, List.foldl_append]
theorem takeA_ok : ∀ (l : List Atom) (cs : List Const), cs.length + (l.flatMap (·.2.1)).length ≤ 65536 → takeA cs l = ((l.flatMap (·.2.1)).foldl valT cs, none)
  | [], _, _ => rfl
  | a :: l, cs, h => by
    simp only [List.flatMap_cons, List.length_append] at h
    have h2 := valsT_len a.2.1 cs
    rw [takeA, valF_ok _ _ (by omega)]
    simp only
    rw [takeA_ok l _ (by omega), List.flatMap_cons, List.foldl_append]
def psF (p : List Clause) (fs : List Atom) : List Pred := fs.foldl namT ((p.flatMap atomsC).foldl namT [])
def csF (p : List Clause) (fs : List Atom) : List Const := (fs.flatMap (·.2.1)).foldl valT ((p.flatMap termsC).foldl valT [])
def coreF (p : List Clause) (fs : List Atom) : Core :=
  (psF p fs, csF p fs, (rulesF (psF p fs) (csF p fs) ([], []) 0 p).1, fs.foldl (fun l a => factT l (rowF (psF p fs) (csF p fs) a)) (rulesF (psF p fs) (csF p fs) ([], []) 0 p).2)
theorem atomW_few {a : Atom} (h : atomW a = 0) : a.2.1.length ≤ 8 := by
  unfold atomW at h
  split at h
  · split at h
    · cases h
    · omega
  · cases h
theorem litW_few {x : Literal} (h : litW x = 0) : (termsL x).length ≤ 8 := by
  unfold litW at h
  unfold termsL argsOf
  by_cases h1 : x.1 = 1 ∨ x.1 = 2
  · rw [if_pos h1] at h ⊢
    split at h
    · exact atomW_few h
    · cases h
  · rw [if_neg h1]
    split <;> simp
theorem firstW_all0 {α : Type} {f : α → Int} : ∀ {l : List α}, firstW f l = 0 → ∀ x ∈ l, f x = 0
  | [], _, x, h => by simp at h
  | y :: l, hf, x, h => by
    rw [firstW] at hf
    split at hf
    · rename_i e
      rcases List.mem_cons.1 h with rfl | h
      · exact e
      · exact firstW_all0 hf x h
    · rename_i e; exact absurd hf e
theorem flat_few {α β : Type} {f : α → List β} {n : Nat} : ∀ {l : List α}, (∀ x ∈ l, (f x).length ≤ n) → (l.flatMap f).length ≤ l.length * n
  | [], _ => by simp
  | x :: l, h => by
    have h1 := flat_few (l := l) fun y hy => h y (List.mem_cons_of_mem _ hy)
    have h2 := h x (List.mem_cons_self ..)
    rw [List.flatMap_cons, List.length_append, List.length_cons, Nat.succ_mul]; omega
theorem clauseW_few {c : Clause} (h : clauseW c = 0) : (termsC c).length ≤ 136 := by
  unfold clauseW at h
  split at h
  · rename_i ha
    split at h
    · cases h
    · have h1 := atomW_few ha
      have h2 := flat_few (f := termsL) (n := 8) (l := c.2) fun x hx => litW_few (firstW_all0 h x hx)
      unfold termsC
      rw [List.length_append]; omega
  · rename_i ha; exact absurd h ha
theorem boundF_ok : ∀ {p : List Clause}, (∀ c ∈ p, boundC c = (0, 0, 0)) → boundF p = (0, 0, 0)
  | [], _ => rfl
  | c :: p, h => by
    rw [boundF, if_pos (h c (List.mem_cons_self ..))]
    exact boundF_ok fun d hd => h d (List.mem_cons_of_mem _ hd)
theorem grB_w {a : Atom} (h : grB a = true) : atomW a = 0 := by
  unfold grB at h
  rw [Bool.and_eq_true, decide_eq_true_eq] at h
  exact h.1
theorem flatN {p : List Clause} (h : ∀ c ∈ p, ClauseN c) : ∀ a ∈ p.flatMap atomsC, AtomN a := fun a ha => by
  obtain ⟨c, hc, ha⟩ := List.mem_flatMap.1 ha
  exact (h c hc).names a ha
theorem form_ok {p : List Clause} {fs : List Atom} (hp : ∀ c ∈ p, ClauseN c) (hl : p.length ≤ 201) (hf : ∀ a ∈ fs, FactN a) (hk : fs.length ≤ 4096) : formF p fs = (0, 0, 0) := by
  have hw : wellW p = 0 := by unfold wellW; rw [if_neg (by omega)]; exact firstW_zero fun c hc => (hp c hc).w
  have hg : (fs.find? fun a => !grB a) = none := by
    rw [List.find?_eq_none]; intro a ha; simp [(hf a ha).g]
  have hc := clash_ok (l := p.flatMap atomsC) (ps := []) (by simp) (by simp) (flatN hp)
  obtain ⟨n1, n2⟩ := names_n (l := p.flatMap atomsC) (ps := []) (by simp) (by simp) (flatN hp)
  have hd := clash_ok (l := fs) n1 n2 fun a ha => (hf a ha).n
  unfold formF
  rw [if_neg (by simp [hw]), if_neg (by omega), hg]
  simp only
  rw [hc]
  simp only
  rw [hd]; rfl
theorem build_ok {p : List Clause} {fs : List Atom} (hp : ∀ c ∈ p, ClauseN c) (hl : p.length ≤ 201) (hf : ∀ a ∈ fs, FactN a) (hk : fs.length ≤ 4096) : buildF p fs = (coreF p fs, 0, 0, 0) := by
  have h1 := form_ok hp hl hf hk
  have h2 : boundF p = (0, 0, 0) := boundF_ok fun c hc => (hp c hc).bound
  have n1 := flat_few (f := termsC) (n := 136) (l := p) fun c hc => clauseW_few (hp c hc).w
  have n2 := flat_few (f := fun a : Atom => a.2.1) (n := 8) (l := fs) fun a ha => atomW_few (grB_w (hf a ha).g)
  have n3 := valsT_len (p.flatMap termsC) []
  simp only [List.length_nil] at n3
  unfold buildF
  rw [if_neg (by simp [h1]), if_neg (by simp [h2]), takeF_ok _ _ _ (by simp only [List.length_nil]; omega)]
  simp only
  rw [takeA_ok _ _ (by omega)]
  rfl
theorem right_n (p : List Clause) : (∀ c ∈ rightF p, ClauseN c) ∧ (rightF p).length ≤ 200 := by
  refine ⟨fun c hc => ?_, ?_⟩
  · obtain ⟨x, -, rfl⟩ := List.mem_map.1 hc
    exact clauseM_n x
  · unfold rightF; rw [List.length_map, List.length_take]; exact Nat.min_le_left _ _
theorem givens_n (fs : List Atom) : (∀ a ∈ givenF fs, FactN a) ∧ (givenF fs).length ≤ 4096 := by
  refine ⟨fun a ha => ?_, ?_⟩
  · obtain ⟨x, -, rfl⟩ := List.mem_map.1 ha
    exact given_n x
  · unfold givenF; rw [List.length_map, List.length_take]; exact Nat.min_le_left _ _
theorem right_built (p : List Clause) (fs : List Atom) : buildF (rightF p) (givenF fs) = (coreF (rightF p) (givenF fs), 0, 0, 0) :=
  build_ok (right_n p).1 (by have := (right_n p).2; omega) (givens_n fs).1 (givens_n fs).2
end Edict
