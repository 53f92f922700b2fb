/- A row of tokens moved; two texts one behind the other: the tables. -/
import Derived.Test.YtmnfhmbmifompaaDoorPqC
namespace Edict
/-! ### A row of tokens moved: the reader's answers move along -/
def shTm (b : Nat) (t : TermT) : TermT := (t.1, t.2.1, t.2.2.1, t.2.2.2 + (b : Int))
def shA (b : Nat) (a : AtomT) : AtomT := (a.1, a.2.1.map (shTm b), a.2.2 + (b : Int))
def shL (b : Nat) (x : LitT) : LitT := if x.1 = 3 then (x.1, x.2.1, x.2.2.1, shTm b x.2.2.2.1, shTm b x.2.2.2.2.1, x.2.2.2.2.2 + (b : Int)) else (x.1, shA b x.2.1, x.2.2.1, x.2.2.2.1, x.2.2.2.2.1, x.2.2.2.2.2 + (b : Int))
def shC (b : Nat) (c : ClauseT) : ClauseT := (shA b c.1, c.2.map (shL b))
def shE (b : Nat) (e : Flt) : Flt := if e.1 = 0 then e else (e.1, e.2 + (b : Int))
def mapR {α β : Type} (b : Nat) (f : α → β) : PR α → PR β
  | .error e => .error (shE b e)
  | .ok (a, q) => .ok (f a, q.map (shT b))
def mapX {α β : Type} (b : Nat) (f : α → β) : Except Flt α → Except Flt β
  | .error e => .error (shE b e)
  | .ok a => .ok (f a)
section
variable {b : Nat}
theorem tK_sh (t : Tok) : tK (shT b t) = tK t := (rfl)
theorem refuse_sh (t : Tok) : refuseD (shT b t) = shE b (refuseD t) := by
  have h : (refuseD t).1 ≠ 0 := refuse_ne t
  unfold shE; rw [if_neg h]; rfl
theorem stop_sh {c : Int} (hc : c ≠ 0) (t : Tok) : stopD c (shT b t) = shE b (stopD c t) := by
  unfold shE stopD; rw [if_neg hc]; rfl
theorem term_sh (t : Tok) : termD (shT b t) = shTm b (termD t) := by
  unfold termD
  rw [tK_sh]
  repeat' split
  all_goals rfl
theorem args_sh (bad : Flt) (vars : Bool) : ∀ (l : List Tok) (acc : List TermT), argsD (shE b bad) vars (acc.map (shTm b)) (l.map (shT b)) = mapR b (List.map (shTm b)) (argsD bad vars acc l)
  | [], acc => by rw [argsD, List.map_nil, argsD]; rfl
  | [t], acc => by
    rw [List.map_cons, List.map_nil, argsD_cons, argsD_cons, List.length_map, tK_sh]
    by_cases h1 : 8 ≤ acc.length ∧ isT (tK t) vars = true
    · rw [if_pos h1, if_pos h1, stop_sh (by decide)]; rfl
    · rw [if_neg h1, if_neg h1]
      by_cases h2 : isT (tK t) vars = false
      · rw [if_pos h2, if_pos h2, refuse_sh]; rfl
      · rw [if_neg h2, if_neg h2]; rfl
  | t :: c :: r, acc => by
    rw [List.map_cons, List.map_cons, argsD_cons, argsD_cons, List.length_map, tK_sh]
    by_cases h1 : 8 ≤ acc.length ∧ isT (tK t) vars = true
    · rw [if_pos h1, if_pos h1, stop_sh (by decide)]; rfl
    · rw [if_neg h1, if_neg h1]
      by_cases h2 : isT (tK t) vars = false
      · rw [if_pos h2, if_pos h2, refuse_sh]; rfl
      · rw [if_neg h2, if_neg h2]
        simp only [tK_sh]
        by_cases h3 : tK c = 7
        · rw [if_pos h3, if_pos h3]
          have := args_sh bad vars r (acc ++ [termD t])
          rw [List.map_append, List.map_cons, List.map_nil] at this
          rw [term_sh]; exact this
        · rw [if_neg h3, if_neg h3]
          by_cases h4 : tK c = 6
          · rw [if_pos h4, if_pos h4, term_sh]; simp only [mapR, List.map_append, List.map_cons, List.map_nil]
          · rw [if_neg h4, if_neg h4, refuse_sh]; rfl
theorem atom_sh (bad : Flt) (vars : Bool) (l : List Tok) : atomD (shE b bad) vars (l.map (shT b)) = mapR b (shA b) (atomD bad vars l) := by
  cases l with
  | nil => rfl
  | cons t l =>
    by_cases h1 : tK t = 1
    · cases l with
      | nil => rw [List.map_cons, List.map_nil, atomD_nil h1, atomD_nil (t := shT b t) h1]; rfl
      | cons p r =>
        rw [List.map_cons, List.map_cons, atomD_on (t := shT b t) h1, atomD_on h1, tK_sh]
        split
        · rfl
        · have := args_sh (b := b) bad vars r []
          rw [List.map_nil] at this
          rw [this]
          cases argsD bad vars [] r with
          | error e => rfl
          | ok x => rfl
    · rw [List.map_cons, atomD_no (t := shT b t) h1, atomD_no h1, refuse_sh]; rfl
theorem opBeh_sh (l : List Tok) : opBeh (l.map (shT b)) = opBeh l := by cases l <;> rfl
theorem lit_sh (bad : Flt) (l : List Tok) : litD (shE b bad) (l.map (shT b)) = mapR b (shL b) (litD bad l) := by
  cases l with
  | nil => rfl
  | cons t l =>
    rw [List.map_cons, litD.eq_def, litD.eq_def]
    simp only [tK_sh, opBeh_sh]
    by_cases h1 : tK t = 10
    · rw [if_pos h1, if_pos h1, atom_sh]
      cases atomD bad true l with
      | error e => rfl
      | ok x => rfl
    · rw [if_neg h1, if_neg h1]
      by_cases h2 : tK t = 1 ∧ opBeh l = false
      · rw [if_pos h2, if_pos h2, ← List.map_cons (f := shT b), atom_sh]
        cases atomD bad true (t :: l) with
        | error e => rfl
        | ok x => rfl
      · rw [if_neg h2, if_neg h2]
        by_cases h3 : isT (tK t) true = false
        · rw [if_pos h3, if_pos h3, refuse_sh]; rfl
        · rw [if_neg h3, if_neg h3]
          cases l with
          | nil => rfl
          | cons o r =>
            simp only [List.map_cons, tK_sh]
            by_cases h4 : tK o ≠ 11
            · rw [if_pos h4, if_pos h4, refuse_sh]; rfl
            · rw [if_neg h4, if_neg h4]
              cases r with
              | nil => rfl
              | cons y q =>
                simp only [List.map_cons, tK_sh]
                by_cases h5 : isT (tK y) true = false
                · rw [if_pos h5, if_pos h5, refuse_sh]; rfl
                · rw [if_neg h5, if_neg h5, term_sh, term_sh]; rfl
theorem body_sh (bad : Flt) : ∀ (l : List Tok) (acc : List LitT), bodyD (shE b bad) (acc.map (shL b)) (l.map (shT b)) = mapR b (List.map (shL b)) (bodyD bad acc l)
  | [], acc => by rw [List.map_nil, bodyD_nil, bodyD_nil]; rfl
  | t :: l, acc => by
    by_cases hf : 16 ≤ acc.length ∧ (tK t = 10 ∨ isT (tK t) true = true)
    · rw [List.map_cons, bodyD_full hf, bodyD_full (by rw [List.length_map]; exact hf), stop_sh (by decide)]; rfl
    · have hf' : ¬ (16 ≤ (acc.map (shL b)).length ∧ (tK (shT b t) = 10 ∨ isT (tK (shT b t)) true = true)) := by rw [List.length_map]; exact hf
      have hl := lit_sh (b := b) bad (t :: l)
      rw [List.map_cons] at hl
      cases he : litD bad (t :: l) with
      | error e =>
        rw [he] at hl
        rw [bodyD_err hf he, List.map_cons, bodyD_err hf' hl]; rfl
      | ok xq =>
        obtain ⟨x, q⟩ := xq
        rw [he] at hl
        rw [bodyD_lit hf he, List.map_cons, bodyD_lit hf' hl]
        cases q with
        | nil => rfl
        | cons c r =>
          have hlen := litD_len he
          show (if tK (shT b c) = 7 then bodyD (shE b bad) (acc.map (shL b) ++ [shL b x]) (r.map (shT b)) else if tK (shT b c) = 8 then .ok (acc.map (shL b) ++ [shL b x], r.map (shT b)) else .error (refuseD (shT b c))) = mapR b (List.map (shL b)) (if tK c = 7 then bodyD bad (acc ++ [x]) r else if tK c = 8 then .ok (acc ++ [x], r) else .error (refuseD c))
          rw [tK_sh]
          by_cases h1 : tK c = 7
          · rw [if_pos h1, if_pos h1]
            have := body_sh bad r (acc ++ [x])
            rw [List.map_append, List.map_cons, List.map_nil] at this
            exact this
          · rw [if_neg h1, if_neg h1]
            by_cases h2 : tK c = 8
            · rw [if_pos h2, if_pos h2]; simp only [mapR, List.map_append, List.map_cons, List.map_nil]
            · rw [if_neg h2, if_neg h2, refuse_sh]; rfl
termination_by l => l.length
decreasing_by simp only [List.length_cons] at *; omega
theorem clause_sh (bad : Flt) (l : List Tok) : clauseD (shE b bad) (l.map (shT b)) = mapR b (shC b) (clauseD bad l) := by
  unfold clauseD
  rw [atom_sh]
  cases atomD bad true l with
  | error e => rfl
  | ok x =>
    obtain ⟨a, q⟩ := x
    cases q with
    | nil => rfl
    | cons c r =>
      simp only [mapR, List.map_cons, tK_sh]
      by_cases h1 : tK c = 8
      · simp only [if_pos h1]; rfl
      · by_cases h2 : tK c = 9
        · have := body_sh (b := b) bad r []
          rw [List.map_nil] at this
          simp only [if_neg h1, if_pos h2, this]
          cases bodyD bad [] r with
          | error e => rfl
          | ok x => rfl
        · simp only [if_neg h1, if_neg h2, refuse_sh]
theorem fact_sh (bad : Flt) (l : List Tok) : factD1 (shE b bad) (l.map (shT b)) = mapR b (shA b) (factD1 bad l) := by
  unfold factD1
  rw [atom_sh]
  cases atomD bad false l with
  | error e => rfl
  | ok x =>
    obtain ⟨a, q⟩ := x
    cases q with
    | nil => rfl
    | cons c r =>
      simp only [mapR, List.map_cons, tK_sh]
      by_cases h1 : tK c = 8
      · simp only [if_pos h1]
      · simp only [if_neg h1, refuse_sh]
theorem all_sh {α : Type} (f : α → α) (bad : Flt) (m : Nat) (one one' : List Tok → PR α) (hone : ∀ l x q, one l = .ok (x, q) → q.length < l.length) (hone' : ∀ l x q, one' l = .ok (x, q) → q.length < l.length)
    (ho : ∀ l, one' (l.map (shT b)) = mapR b f (one l)) : ∀ (l : List Tok) (acc : List α), allD (shE b bad) m one' hone' (acc.map f) (l.map (shT b)) = mapX b (List.map f) (allD bad m one hone acc l)
  | [], acc => by rw [List.map_nil, allD_nil, allD_nil]; rfl
  | t :: l, acc => by
    by_cases h0 : tK t = 0
    · rw [List.map_cons, allD_end h0, allD_end (t := shT b t) h0]; rfl
    · by_cases hf : m ≤ acc.length ∧ tK t = 1
      · rw [List.map_cons, allD_full h0 hf, allD_full (t := shT b t) h0 (by rw [List.length_map]; exact hf), stop_sh (by decide)]; rfl
      · have hf' : ¬ (m ≤ (acc.map f).length ∧ tK (shT b t) = 1) := by rw [List.length_map]; exact hf
        have hl := ho (t :: l)
        rw [List.map_cons] at hl
        cases he : one (t :: l) with
        | error e =>
          rw [he] at hl
          rw [allD_err h0 hf he, List.map_cons, allD_err (t := shT b t) h0 hf' hl]; rfl
        | ok xq =>
          obtain ⟨x, q⟩ := xq
          rw [he] at hl
          have hlen := hone _ _ _ he
          rw [allD_on h0 hf he, List.map_cons, allD_on (t := shT b t) h0 hf' hl]
          have := all_sh f bad m one one' hone hone' ho q (acc ++ [x])
          rw [List.map_append, List.map_cons, List.map_nil] at this
          exact this
termination_by l => l.length
decreasing_by simp only [List.length_cons] at *; omega
theorem prog_sh (bad : Flt) (l : List Tok) (acc : List ClauseT) : progD (shE b bad) (acc.map (shC b)) (l.map (shT b)) = mapX b (List.map (shC b)) (progD bad acc l) := all_sh (shC b) bad 512 _ _ _ _ (clause_sh bad) l acc
theorem facts_sh (bad : Flt) (l : List Tok) (acc : List AtomT) : factsD (shE b bad) (acc.map (shA b)) (l.map (shT b)) = mapX b (List.map (shA b)) (factsD bad acc l) := all_sh (shA b) bad 4096 _ _ _ _ (fact_sh bad) l acc
end
/-! ### Two texts one behind the other -/
/-- How deep a table's place is. -/
def depS (s : Int) : Int := if s = 2 ∨ s = 3 ∨ s = 9 ∨ s = 10 ∨ s = 17 ∨ s = 18 then 1 else 0
theorem step_at {f s k : Int} (hf : f = 0 ∨ f = 15) (h : Rch f s) (hk : k ≠ 0) (hm : moveF f s k ≠ -1) : depS (moveF f s k) = depF (depS s) k ∧ (k = 8 → depF (depS s) k = 0 ∧ moveF f s k = f) ∧ (moveF f s k = f → k = 8) ∧ ∀ c, tkC s k c = if s = f then c + 1 else c := by
  unfold Rch at h
  rcases h with ⟨rfl, h1, h2⟩ | ⟨rfl, h1, h2⟩ | ⟨rfl, h⟩ | ⟨rfl, h1, h2⟩
  · obtain h | h | h | h | h | h | h | h | h | h | h | h | h | h | h : s = 0 ∨ s = 1 ∨ s = 2 ∨ s = 3 ∨ s = 4 ∨ s = 5 ∨ s = 6 ∨ s = 7 ∨ s = 8 ∨ s = 9 ∨ s = 10 ∨ s = 11 ∨ s = 12 ∨ s = 13 ∨ s = 14 := by omega
    all_goals
      subst h
      unfold moveF behF at hm ⊢
      simp only [Int.reduceEq, if_true, if_false, hk, tkC] at hm ⊢
      repeat' split at hm
      all_goals first
        | (exact absurd rfl hm)
        | (rename_i q; rcases isT_k q with q | q | q | q <;> (subst q; simp [depS, depF, isT]))
        | (subst_vars; simp [depS, depF])
        | (rename_i q1 q; rcases isT_k q with q | q | q | q <;> (subst q; simp_all [depS, depF, isT]))
        | (rename_i q1 q2 q; rcases isT_k q with q | q | q | q <;> (subst q; simp_all [depS, depF, isT]))
  · obtain h | h | h | h | h : s = 15 ∨ s = 16 ∨ s = 17 ∨ s = 18 ∨ s = 19 := by omega
    all_goals
      subst h
      unfold moveF behF at hm ⊢
      simp only [Int.reduceEq, if_true, if_false, hk, tkC] at hm ⊢
      repeat' split at hm
      all_goals first
        | (exact absurd rfl hm)
        | (rename_i q; rcases isT_k q with q | q | q | q <;> (subst q; simp_all [depS, depF, isT]))
        | (subst_vars; simp [depS, depF])
  · omega
  · omega
/-- A table over what was right: where it stands behind it, and where the cuts stand. -/
theorem chk_run {f : Int} (hf : f = 0 ∨ f = 15) {bad : Flt} {e : Tok} (he : tK e = 0) : ∀ (p : List Tok) (s : Int) (c n m : Nat) (now : List Tok), (∀ x ∈ p, tK x ≠ 0) → Rch f s → (s = f → now = []) → n ≤ 16 → m ≤ 8 → chkF f bad s c n m (p ++ [e]) = (0, 0) → bad = (0, 0) →
    ∃ n' m' P, n' ≤ 16 ∧ m' ≤ 8 ∧ (∀ bad' r, chkF f bad' s c n m (p ++ r) = chkF f bad' f (c + P.length - (if s = f then 0 else 1)) n' m' r) ∧ (∀ r, cutF 8 (depS s) now (p ++ r) = P ++ cutF 8 0 [] r) ∧ (s ≠ f → 0 < P.length)
  | [], s, c, n, m, now, hp, hr, hn, hn1, hm1, h, hb => by
    rw [List.nil_append, chkF, he] at h
    have hs : s = f := by
      split at h
      · exact absurd (congrArg Prod.fst h) (refuse_ne e)
      · rename_i h1
        unfold Rch at hr
        refine Classical.byContradiction fun q => h1 ?_
        rcases hf with rfl | rfl
        · obtain h | h | h | h | h | h | h | h | h | h | h | h | h | h : s = 1 ∨ s = 2 ∨ s = 3 ∨ s = 4 ∨ s = 5 ∨ s = 6 ∨ s = 7 ∨ s = 8 ∨ s = 9 ∨ s = 10 ∨ s = 11 ∨ s = 12 ∨ s = 13 ∨ s = 14 := by omega
          all_goals (subst h; decide)
        · obtain h | h | h | h : s = 16 ∨ s = 17 ∨ s = 18 ∨ s = 19 := by omega
          all_goals (subst h; decide)
    rw [hn hs]
    have hd : depS s = 0 := by rw [hs]; rcases hf with rfl | rfl <;> decide
    exact ⟨n, m, [], hn1, hm1, fun bad' r => by rw [if_pos hs, hs]; rfl, fun r => by rw [hd]; rfl, fun q => absurd hs q⟩
  | x :: p, s, c, n, m, now, hp, hr, hn, hn1, hm1, h, hb => by
    have hx := hp x (by simp)
    rw [List.cons_append, chkF] at h
    split at h
    · exact absurd (congrArg Prod.fst h) (refuse_ne x)
    rename_i h1
    split at h
    · rename_i h2
      exact absurd (congrArg Prod.fst h) h2
    rename_i h2
    obtain ⟨a1, a2, a3, a4⟩ := step_at hf hr hx h1
    have h2' := Classical.not_not.1 h2
    have ho : tkL s (tK x) n ≤ 16 ∧ tkT s (tK x) m ≤ 8 := by
      unfold overF at h2'
      split at h2'
      · exact absurd h2' (by decide)
      · split at h2'
        · exact absurd h2' (by decide)
        · split at h2'
          · exact absurd h2' (by decide)
          · omega
    by_cases h8 : tK x = 8
    · obtain ⟨b1, b2⟩ := a2 h8
      obtain ⟨n', m', P, g1, g2, g3, g4, -⟩ := chk_run hf he p (moveF f s (tK x)) (tkC s (tK x) c) (tkL s (tK x) n) (tkT s (tK x) m) [] (fun y hy => hp y (List.mem_cons_of_mem _ hy)) (rch_move hr hx h1) (fun _ => rfl) ho.1 ho.2 h hb
      refine ⟨n', m', now :: P, g1, g2, fun bad' r => ?_, fun r => ?_, fun _ => by simp⟩
      · rw [List.cons_append, chkF, if_neg h1, if_neg h2, g3 bad' r, a4, if_pos b2]
        congr 1
        simp only [List.length_cons]
        split <;> omega
      · rw [List.cons_append, cutF, if_pos ⟨h8, b1⟩, List.cons_append, ← a1, g4 r]
    · have hsf : moveF f s (tK x) ≠ f := fun q => h8 (a3 q)
      obtain ⟨n', m', P, g1, g2, g3, g4, g5⟩ := chk_run hf he p (moveF f s (tK x)) (tkC s (tK x) c) (tkL s (tK x) n) (tkT s (tK x) m) (now ++ [x]) (fun y hy => hp y (List.mem_cons_of_mem _ hy)) (rch_move hr hx h1) (fun q => absurd q hsf) ho.1 ho.2 h hb
      have hP := g5 hsf
      refine ⟨n', m', P, g1, g2, fun bad' r => ?_, fun r => ?_, fun _ => hP⟩
      · rw [List.cons_append, chkF, if_neg h1, if_neg h2, g3 bad' r, a4, if_neg hsf]
        congr 1
        split <;> omega
      · rw [List.cons_append, cutF, if_neg (fun q => h8 q.1), ← a1, g4 r]
def cnt (l : List Tok) : Nat := l.countP fun t => decide (tK t = 1)
def capM (f : Int) : Nat := if f = 0 then 512 else 4096
/-- Far from the limit the count of clauses matters nothing. -/
theorem cap_free {f : Int} (hf : f = 0 ∨ f = 15) {bad : Flt} : ∀ (l : List Tok) (s : Int) (c d n m : Nat), c + cnt l ≤ capM f → d + cnt l ≤ capM f → chkF f bad s c n m l = chkF f bad s d n m l
  | [], s, c, d, n, m, _, _ => rfl
  | x :: r, s, c, d, n, m, h1, h2 => by
    have hc : ∀ z, z + cnt (x :: r) ≤ capM f → tkC s (tK x) z + cnt r ≤ capM f ∧ capC f (tkC s (tK x) z) = false := by
      intro z hz
      have hq : tkC s (tK x) z + cnt r ≤ capM f := by
        unfold tkC
        unfold cnt at hz ⊢
        rw [List.countP_cons] at hz
        split
        · rename_i q; rw [if_pos (by simp [q.2])] at hz; omega
        · split at hz <;> omega
      refine ⟨hq, ?_⟩
      unfold capC
      unfold capM at hq
      rcases hf with rfl | rfl
      · simp at hq ⊢; omega
      · simp at hq ⊢; omega
    obtain ⟨c1, c2⟩ := hc c h1
    obtain ⟨d1, d2⟩ := hc d h2
    have ho : ∀ a b, overF f (tkC s (tK x) c) a b = overF f (tkC s (tK x) d) a b := fun a b => by unfold overF; rw [c2, d2]
    rw [chkF, chkF, ho]
    split
    · rfl
    · split
      · rfl
      · exact cap_free hf r _ _ _ _ _ c1 d1
/-- There are at most as many tokens as bytes. -/
theorem few_toks : ∀ (l : List Tok) (lo hi : Int), (∀ t ∈ l, lo ≤ tO t ∧ tO t < hi) → l.Pairwise (fun x y => tO x < tO y) → lo ≤ hi → (l.length : Int) ≤ hi - lo
  | [], lo, hi, _, _, h => by simp; omega
  | t :: l, lo, hi, h, hp, hh => by
    obtain ⟨p1, p2⟩ := List.pairwise_cons.1 hp
    obtain ⟨a, b⟩ := h t (by simp)
    have := few_toks l (tO t + 1) hi (fun x hx => ⟨by have := p1 x hx; omega, (h x (List.mem_cons_of_mem _ hx)).2⟩) p2 (by omega)
    simp only [List.length_cons]; omega
theorem cnt_few (s : List UInt8) : cnt (scanK s 0).1 ≤ s.length := by
  obtain ⟨h1, h2⟩ := scan_sorted (s := s) (k := 0) (l := (scanK s 0).1) (f := (scanK s 0).2) (Nat.zero_le _) rfl
  unfold cnt
  rw [List.countP_eq_length_filter]
  have := few_toks ((scanK s 0).1.filter fun t => decide (tK t = 1)) 0 s.length (fun t ht => by
    obtain ⟨a, b⟩ := List.mem_filter.1 ht
    obtain ⟨c1, c2, c3, -⟩ := h1 t a
    have := c3 (by have := of_decide_eq_true b; unfold tK at this; omega)
    omega) (h2.sublist List.filter_sublist) (by omega)
  omega
theorem cnt_sh (b : Nat) (l : List Tok) : cnt (l.map (shT b)) = cnt l := by unfold cnt; rw [List.countP_map]; rfl
end Edict
