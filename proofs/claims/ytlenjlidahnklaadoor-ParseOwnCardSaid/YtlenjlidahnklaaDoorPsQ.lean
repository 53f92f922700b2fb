/- The document's answer on rows of tokens: the table of states, the cuts; and that the reader of clauses agrees. -/
import Derived.Test.YtlenjlidahnklaaDoorPsP
namespace Edict
def behF (first : Int) : Int := if first = 5 then 25 else 0
def moveF (first s k : Int) : Int :=
  if s = 0 then (if k = 1 then 1 else if k = 0 then 26 else -1)
  else if s = 1 then (if k = 5 then 2 else if k = 8 then 0 else if k = 9 then 5 else -1)
  else if s = 2 then (if isT k true = true then 3 else -1)
  else if s = 3 then (if k = 7 then 2 else if k = 6 then 4 else -1)
  else if s = 4 then (if k = 8 then 0 else if k = 9 then 5 else -1)
  else if s = 5 then (if k = 1 then 6 else if k = 10 then 7 else if isT k true = true then 8 else -1)
  else if s = 6 then (if k = 11 then 11 else if k = 5 then 9 else if k = 7 then 5 else if k = 8 then behF first else -1)
  else if s = 7 then (if k = 1 then 12 else -1)
  else if s = 8 then (if k = 11 then 11 else -1)
  else if s = 9 then (if isT k true = true then 10 else -1)
  else if s = 10 then (if k = 7 then 9 else if k = 6 then 13 else -1)
  else if s = 11 then (if isT k true = true then 14 else -1)
  else if s = 12 then (if k = 5 then 9 else if k = 7 then 5 else if k = 8 then behF first else -1)
  else if s = 13 then (if k = 7 then 5 else if k = 8 then behF first else -1)
  else if s = 14 then (if k = 7 then 5 else if k = 8 then behF first else -1)
  else if s = 15 then (if k = 1 then 16 else if k = 0 then 26 else -1)
  else if s = 16 then (if k = 5 then 17 else if k = 8 then 15 else -1)
  else if s = 17 then (if isT k false = true then 18 else -1)
  else if s = 18 then (if k = 7 then 17 else if k = 6 then 19 else -1)
  else if s = 19 then (if k = 8 then 15 else -1)
  else if s = 20 then (if k = 1 then 21 else -1)
  else if s = 21 then (if k = 5 then 22 else if k = 0 then 26 else -1)
  else if s = 22 then (if isT k false = true then 23 else -1)
  else if s = 23 then (if k = 7 then 22 else if k = 6 then 24 else -1)
  else if s = 24 then (if k = 0 then 26 else -1)
  else if s = 25 then (if k = 0 then 26 else -1)
  else -1
def tkC (s k : Int) (c : Nat) : Nat := if (s = 0 ∨ s = 15) ∧ k = 1 then c + 1 else c
def tkL (s k : Int) (l : Nat) : Nat := if k = 9 then 0 else if s = 5 then l + 1 else l
def tkT (s k : Int) (t : Nat) : Nat := if k = 5 then 0 else if s = 2 ∨ s = 9 ∨ s = 17 ∨ s = 22 then t + 1 else t
def capC (first : Int) (c : Nat) : Bool := (decide (first = 0) && decide (512 < c)) || (decide (first = 15) && decide (4096 < c))
def overF (first : Int) (c l t : Nat) : Int := if capC first c = true then 24 else if 16 < l then 23 else if 8 < t then 22 else 0
def chkF (first : Int) (bad : Flt) : Int → Nat → Nat → Nat → List Tok → Flt
  | _, _, _, _, [] => bad
  | s, c, l, t, x :: r => if moveF first s (tK x) = -1 then refuseD x else
      if overF first (tkC s (tK x) c) (tkL s (tK x) l) (tkT s (tK x) t) ≠ 0 then (overF first (tkC s (tK x) c) (tkL s (tK x) l) (tkT s (tK x) t), tO x) else
      chkF first bad (moveF first s (tK x)) (tkC s (tK x) c) (tkL s (tK x) l) (tkT s (tK x) t) r
def depF (d k : Int) : Int := if k = 5 then d + 1 else if k = 6 then d - 1 else d
def cutF (k : Int) : Int → List Tok → List Tok → List (List Tok)
  | _, now, [] => [now]
  | d, now, t :: l => if tK t = k ∧ depF d (tK t) = 0 then now :: cutF k (depF d (tK t)) [] l else cutF k (depF d (tK t)) (now ++ [t]) l
def argsOf (l : List Tok) : List TermT := (l.filter fun t => isT (tK t) true).map termD
def atomF : List Tok → AtomT
  | [] => noAtom
  | t :: l => (tX t, argsOf l, tO t)
def litF : List Tok → LitT
  | [] => (0, noAtom, 0, noTerm, noTerm, 0)
  | t :: l => if tK t = 10 then (2, atomF l, 0, noTerm, noTerm, tO t) else
    match l with
    | [o, y] => if tK o = 11 then (3, noAtom, tP o, termD t, termD y, tO t) else (1, atomF (t :: l), 0, noTerm, noTerm, tO t)
    | _ => (1, atomF (t :: l), 0, noTerm, noTerm, tO t)
def bodyF3 (l : List Tok) : List LitT := (cutF 7 0 [] l).map litF
def clauseF (s : List Tok) : ClauseT :=
  match cutF 9 0 [] s with
  | [a, b] => (atomF a, bodyF3 b)
  | a :: _ => (atomF a, [])
  | [] => (noAtom, [])
def sentF (l : List Tok) : List (List Tok) := (cutF 8 0 [] l).dropLast
theorem cutF_ne (k : Int) : ∀ (l : List Tok) (d : Int) (now : List Tok), cutF k d now l ≠ []
  | [], d, now => by simp [cutF]
  | t :: l, d, now => by
    rw [cutF]
    split
    · simp
    · exact cutF_ne k l _ _
/-! ### Agreement -/
/-- A row of tokens and why there are no more of them. -/
def GoodR (l : List Tok) (bad : Flt) : Prop := (bad.1 ≠ 0 ∧ ∀ t ∈ l, tK t ≠ 0) ∨ (bad = (0, 0) ∧ ∃ q e, l = q ++ [e] ∧ tK e = 0 ∧ ∀ t ∈ q, tK t ≠ 0)
theorem GoodR.nil {bad : Flt} (h : GoodR [] bad) : bad.1 ≠ 0 := by
  rcases h with h | ⟨_, q, e, h, _⟩
  · exact h.1
  · cases q <;> cases h
theorem GoodR.tail {t : Tok} {l : List Tok} {bad : Flt} (h : GoodR (t :: l) bad) (ht : tK t ≠ 0) : GoodR l bad := by
  rcases h with h | ⟨h0, q, e, h1, h2, h3⟩
  · exact .inl ⟨h.1, fun x hx => h.2 x (List.mem_cons_of_mem _ hx)⟩
  · cases q with
    | nil => cases h1; exact absurd h2 ht
    | cons a q => cases h1; exact .inr ⟨h0, q, e, rfl, h2, fun x hx => h3 x (List.mem_cons_of_mem _ hx)⟩
theorem GoodR.last {t : Tok} {l : List Tok} {bad : Flt} (h : GoodR (t :: l) bad) (ht : tK t = 0) : l = [] ∧ bad = (0, 0) := by
  rcases h with h | ⟨h0, q, e, h1, h2, h3⟩
  · exact absurd ht (h.2 t (by simp))
  · cases q with
    | nil => cases h1; exact ⟨rfl, h0⟩
    | cons a q => cases h1; exact absurd ht (h3 t (by simp))
theorem refuse_ne (t : Tok) : (refuseD t).1 ≠ 0 := by unfold refuseD; split <;> simp
section
variable {f : Int} {bad : Flt} {s : Int} {c l t : Nat} {x : Tok} {r : List Tok}
theorem chk_none (h : moveF f s (tK x) = -1) : chkF f bad s c l t (x :: r) = refuseD x := by rw [chkF, if_pos h]
theorem chk_over {e : Int} (h : moveF f s (tK x) ≠ -1) (ho : overF f (tkC s (tK x) c) (tkL s (tK x) l) (tkT s (tK x) t) = e) (he : e ≠ 0) : chkF f bad s c l t (x :: r) = (e, tO x) := by
  rw [chkF, if_neg h, ho, if_pos he]
theorem chk_on {n : Int} {c' l' t' : Nat} (h : moveF f s (tK x) = n) (hn : n ≠ -1) (hc : tkC s (tK x) c = c') (hl : tkL s (tK x) l = l') (ht : tkT s (tK x) t = t') (ho : overF f c' l' t' = 0) :
    chkF f bad s c l t (x :: r) = chkF f bad n c' l' t' r := by
  rw [chkF, h, hc, hl, ht, if_neg hn, if_neg (by simp [ho])]
end
theorem over_ok {f : Int} {c l t : Nat} (h1 : capC f c = false) (h2 : l ≤ 16) (h3 : t ≤ 8) : overF f c l t = 0 := by
  unfold overF; rw [if_neg (by simp [h1]), if_neg (by omega), if_neg (by omega)]
def Pass (k : Int) (l : List Tok) : Prop := ∀ now rest, cutF k 0 now (l ++ rest) = cutF k 0 (now ++ l) rest
theorem Pass.app {k : Int} {a b : List Tok} (ha : Pass k a) (hb : Pass k b) : Pass k (a ++ b) := fun now rest => by rw [List.append_assoc, ha, hb, List.append_assoc]
theorem Pass.one {k : Int} {t : Tok} (h1 : tK t ≠ k) (h5 : tK t ≠ 5) (h6 : tK t ≠ 6) : Pass k [t] := fun now rest => by
  show cutF k 0 now (t :: rest) = _
  rw [cutF, if_neg (fun q => h1 q.1)]
  unfold depF
  rw [if_neg h5, if_neg h6]
theorem Pass.all {k : Int} {a : List Tok} (ha : Pass k a) : cutF k 0 [] a = [a] := by
  have := ha [] []
  rw [List.append_nil] at this
  rw [this]; rfl
/-- The states of an atom's terms. -/
structure ArgSt (f S M E : Int) (vars : Bool) : Prop where
  mS : ∀ k, moveF f S k = if isT k vars = true then M else -1
  mM : ∀ k, moveF f M k = if k = 7 then S else if k = 6 then E else -1
  sS : S = 2 ∨ S = 9 ∨ S = 17 ∨ S = 22
  sM : M = 3 ∨ M = 10 ∨ M = 18 ∨ M = 23
  sE : E ≠ -1
theorem argSt_head {f : Int} : ArgSt f 2 3 4 true := ⟨fun k => by simp [moveF], fun k => by simp [moveF], by simp, by simp, by decide⟩
theorem argSt_lit {f : Int} : ArgSt f 9 10 13 true := ⟨fun k => by simp [moveF], fun k => by simp [moveF], by simp, by simp, by decide⟩
theorem argSt_fact {f : Int} : ArgSt f 17 18 19 false := ⟨fun k => by simp [moveF], fun k => by simp [moveF], by simp, by simp, by decide⟩
theorem argSt_one {f : Int} : ArgSt f 22 23 24 false := ⟨fun k => by simp [moveF], fun k => by simp [moveF], by simp, by simp, by decide⟩
theorem isT_true {k : Int} {v : Bool} (h : isT k v = true) : isT k true = true := by
  cases v
  · unfold isT at h ⊢; simp at h ⊢; omega
  · exact h
theorem isT_k {k : Int} {v : Bool} (h : isT k v = true) : k = 1 ∨ k = 2 ∨ k = 3 ∨ k = 4 := by
  have := isT_true h
  unfold isT at this; simp at this; omega
theorem args_chk {f S M E : Int} {vars : Bool} (A : ArgSt f S M E vars) {bad : Flt} {c li : Nat} (hc : capC f c = false) (hli : li ≤ 16) : ∀ (l : List Tok) (acc : List TermT), acc.length ≤ 8 → GoodR l bad →
    (∀ e, argsD bad vars acc l = .error e → chkF f bad S c li acc.length l = e ∧ e.1 ≠ 0) ∧
    ∀ a q, argsD bad vars acc l = .ok (a, q) → GoodR q bad ∧ (∃ te, te ≤ 8 ∧ chkF f bad S c li acc.length l = chkF f bad E c li te q) ∧
      ∃ pre, l = pre ++ q ∧ a = acc ++ argsOf pre ∧ ∀ k, k = 7 ∨ k = 8 ∨ k = 9 → ∀ now rest, cutF k 1 now (pre ++ rest) = cutF k 0 (now ++ pre) rest
  | [], acc, _, hg => by
    unfold argsD
    exact ⟨fun e h => by cases h; exact ⟨rfl, hg.nil⟩, fun a q h => by cases h⟩
  | t :: l, acc, hacc, hg => by
    have hsC : ∀ k, tkC S k c = c := fun k => by unfold tkC; rw [if_neg]; rintro ⟨h | h, _⟩ <;> (rcases A.sS with q | q | q | q <;> omega)
    have hsL : ∀ k, k ≠ 9 → tkL S k li = li := fun k hk => by unfold tkL; rw [if_neg hk, if_neg]; rcases A.sS with q | q | q | q <;> omega
    have hsT : ∀ k n, k ≠ 5 → tkT S k n = n + 1 := fun k n hk => by unfold tkT; rw [if_neg hk, if_pos A.sS]
    have hmC : ∀ k, tkC M k c = c := fun k => by unfold tkC; rw [if_neg]; rintro ⟨h | h, _⟩ <;> (rcases A.sM with q | q | q | q <;> omega)
    have hmL : ∀ k, k ≠ 9 → tkL M k li = li := fun k hk => by unfold tkL; rw [if_neg hk, if_neg]; rcases A.sM with q | q | q | q <;> omega
    have hmT : ∀ k n, k ≠ 5 → tkT M k n = n := fun k n hk => by unfold tkT; rw [if_neg hk, if_neg]; rcases A.sM with q | q | q | q <;> omega
    have hM1 : M ≠ -1 := by rcases A.sM with q | q | q | q <;> omega
    have hS1 : S ≠ -1 := by rcases A.sS with q | q | q | q <;> omega
    rw [argsD_cons]
    by_cases hT : isT (tK t) vars = true
    · have hk := isT_k hT
      have mv : moveF f S (tK t) = M := by rw [A.mS, if_pos hT]
      by_cases hfull : 8 ≤ acc.length
      · rw [if_pos ⟨hfull, hT⟩]
        refine ⟨fun e h => ?_, fun a q h => by cases h⟩
        cases h
        refine ⟨chk_over (by rw [mv]; exact hM1) ?_ (by decide), (show (22 : Int) ≠ 0 by decide)⟩
        rw [hsC, hsL _ (by omega), hsT _ _ (by omega)]
        unfold overF; rw [if_neg (by simp [hc]), if_neg (by omega), if_pos (by omega)]
      · rw [if_neg (fun q => hfull q.1), if_neg (by simp [hT])]
        have hon : chkF f bad S c li acc.length (t :: l) = chkF f bad M c li (acc.length + 1) l := chk_on mv hM1 (hsC _) (hsL _ (by omega)) (hsT _ _ (by omega)) (over_ok hc hli (by omega))
        have hgl : GoodR l bad := hg.tail (by omega)
        rw [hon]
        cases l with
        | nil => exact ⟨fun e h => by cases h; exact ⟨rfl, hgl.nil⟩, fun a q h => by cases h⟩
        | cons p r =>
          simp only
          have hlen : (acc ++ [termD t]).length = acc.length + 1 := by simp
          have hdt : ∀ d, depF d (tK t) = d := fun d => by unfold depF; rw [if_neg (by omega), if_neg (by omega)]
          have hat : argsOf [t] = [termD t] := by unfold argsOf; simp [isT_true hT]
          by_cases h7 : tK p = 7
          · rw [if_pos h7]
            have hon2 : chkF f bad M c li (acc.length + 1) (p :: r) = chkF f bad S c li (acc.length + 1) r := chk_on (by rw [A.mM, if_pos h7]) hS1 (hmC _) (hmL _ (by omega)) (hmT _ _ (by omega)) (over_ok hc hli (by omega))
            obtain ⟨i1, i2⟩ := args_chk A hc hli r (acc ++ [termD t]) (by omega) (hgl.tail (by omega))
            rw [hon2, ← hlen]
            refine ⟨i1, fun a q h => ?_⟩
            obtain ⟨j1, j2, pre, j3, j4, j5⟩ := i2 a q h
            refine ⟨j1, j2, t :: p :: pre, by rw [j3]; rfl, ?_, fun k hk' now rest => ?_⟩
            · rw [j4]
              have : argsOf (t :: p :: pre) = termD t :: argsOf pre := by
                unfold argsOf; simp [isT_true hT, show isT (tK p) true = false by rw [h7]; rfl]
              rw [this]; simp
            · show cutF k 1 now (t :: p :: (pre ++ rest)) = _
              rw [cutF, hdt, if_neg (fun q => absurd q.2 (by decide)), cutF, if_neg (fun q => by have := q.2; unfold depF at this; rw [if_neg (by omega), if_neg (by omega)] at this; exact absurd this (by decide))]
              unfold depF
              rw [if_neg (by omega), if_neg (by omega), j5 k hk']
              simp
          · rw [if_neg h7]
            by_cases h6 : tK p = 6
            · rw [if_pos h6]
              refine ⟨fun e h => (by cases h), fun a q h => ?_⟩
              cases h
              refine ⟨hgl.tail (by omega), ⟨acc.length + 1, by omega, chk_on (by rw [A.mM, if_neg h7, if_pos h6]) A.sE (hmC _) (hmL _ (by omega)) (hmT _ _ (by omega)) (over_ok hc hli (by omega))⟩, [t, p], rfl, ?_, fun k hk' now rest => ?_⟩
              · have : argsOf [t, p] = [termD t] := by
                  unfold argsOf; simp [isT_true hT, show isT (tK p) true = false by rw [h6]; rfl]
                rw [this]
              · show cutF k 1 now (t :: p :: rest) = _
                rw [cutF, hdt, if_neg (fun q => absurd q.2 (by decide)), cutF, if_neg (fun q => by omega)]
                unfold depF
                rw [if_neg (by omega), if_pos h6]
                simp
            · rw [if_neg h6]
              refine ⟨fun e h => ?_, fun a q h => by cases h⟩
              cases h
              exact ⟨chk_none (by rw [A.mM, if_neg h7, if_neg h6]), refuse_ne _⟩
    · rw [if_neg (fun q => hT q.2), if_pos (by simpa using hT)]
      refine ⟨fun e h => ?_, fun a q h => by cases h⟩
      cases h
      exact ⟨chk_none (by rw [A.mS, if_neg hT]), refuse_ne _⟩
theorem atomD_on {bad : Flt} {vars : Bool} {t p : Tok} {r : List Tok} (ht : tK t = 1) : atomD bad vars (t :: p :: r) = if tK p ≠ 5 then .ok ((tX t, [], tO t), p :: r) else
      match argsD bad vars [] r with
      | .error e => .error e
      | .ok (a, q) => .ok ((tX t, a, tO t), q) := by rw [atomD, if_neg (by simp [ht])] <;> rfl
theorem atomD_nil {bad : Flt} {vars : Bool} {t : Tok} (ht : tK t = 1) : atomD bad vars [t] = .error bad := by rw [atomD, if_neg (by simp [ht])]
theorem atomD_no {bad : Flt} {vars : Bool} {t : Tok} {l : List Tok} (ht : tK t ≠ 1) : atomD bad vars (t :: l) = .error (refuseD t) := by cases l <;> rw [atomD, if_pos ht]
theorem argsOf_no {t : Tok} {l : List Tok} (h : isT (tK t) true = false) : argsOf (t :: l) = argsOf l := by unfold argsOf; simp [h]
theorem atom_chk {f N S M E : Int} {vars : Bool} (A : ArgSt f S M E vars) (hN : moveF f N 5 = S) (hN0 : N = 1 ∨ N = 6 ∨ N = 12 ∨ N = 16 ∨ N = 21) {bad : Flt} {c li te : Nat} (hc : capC f c = false) (hli : li ≤ 16) (hte : te ≤ 8)
    {t : Tok} {l : List Tok} (ht : tK t = 1) (hg : GoodR l bad) :
    (∀ e, atomD bad vars (t :: l) = .error e → chkF f bad N c li te l = e ∧ e.1 ≠ 0) ∧
    ∀ a q, atomD bad vars (t :: l) = .ok (a, q) → GoodR q bad ∧ (∃ te' X, te' ≤ 8 ∧ chkF f bad N c li te l = chkF f bad X c li te' q ∧ (X = E ∨ (X = N ∧ q = l ∧ ∀ p r, q = p :: r → tK p ≠ 5))) ∧
      ∃ pre, l = pre ++ q ∧ a = atomF (t :: pre) ∧ (∀ k, k = 7 ∨ k = 8 ∨ k = 9 → Pass k (t :: pre)) ∧ (∀ p r, pre = p :: r → tK p = 5) := by
  cases l with
  | nil =>
    rw [atomD_nil ht]
    exact ⟨fun e h => by cases h; exact ⟨rfl, hg.nil⟩, fun a q h => by cases h⟩
  | cons p r =>
    rw [atomD_on ht]
    by_cases h5 : tK p = 5
    · rw [if_neg (by simp [h5])]
      have hS1 : S ≠ -1 := by rcases A.sS with q | q | q | q <;> omega
      have hon : chkF f bad N c li te (p :: r) = chkF f bad S c li ([] : List TermT).length r := chk_on (by rw [h5, hN]) hS1 (by unfold tkC; rw [if_neg (by rcases hN0 with q | q | q | q | q <;> omega)]) (by unfold tkL; rw [if_neg (by omega), if_neg (by rcases hN0 with q | q | q | q | q <;> omega)]) (by unfold tkT; rw [if_pos h5]; rfl) (over_ok hc hli (by simp))
      obtain ⟨i1, i2⟩ := args_chk A hc hli r [] (by simp) (hg.tail (by omega))
      rw [hon]
      cases ha : argsD bad vars [] r with
      | error e => exact ⟨fun e' h => by cases h; exact i1 e ha, fun a q h => by cases h⟩
      | ok aq =>
        obtain ⟨a, q⟩ := aq
        refine ⟨fun e' h => (by cases h), fun a' q' h => ?_⟩
        cases h
        obtain ⟨j1, ⟨te', j2, j2'⟩, pre, j3, j4, j5⟩ := i2 a q ha
        have h5t : isT (tK p) true = false := by rw [h5]; rfl
        refine ⟨j1, ⟨te', E, j2, j2', .inl rfl⟩, p :: pre, by rw [j3]; rfl, ?_, fun k hk now rest => ?_, fun p' r' h => by cases h; exact h5⟩
        · rw [j4]
          show (tX t, [] ++ argsOf pre, tO t) = (tX t, argsOf (p :: pre), tO t)
          rw [argsOf_no h5t, List.nil_append]
        · show cutF k 0 now (t :: p :: (pre ++ rest)) = _
          rw [cutF, if_neg (fun q => by omega)]
          have hd : depF 0 (tK t) = 0 := by unfold depF; rw [if_neg (by omega), if_neg (by omega)]
          have hd2 : depF 0 (tK p) = 1 := by unfold depF; rw [if_pos h5]; rfl
          rw [hd, cutF, if_neg (fun q => by omega), hd2, j5 k hk]
          simp
    · rw [if_pos h5]
      refine ⟨fun e h => (by cases h), fun a q h => ?_⟩
      cases h
      refine ⟨hg, ⟨te, N, hte, rfl, .inr ⟨rfl, rfl, fun p' r' h => by cases h; exact h5⟩⟩, [], rfl, ?_, fun k hk => Pass.one (by omega) (by omega) (by omega), fun p' r' h => by cases h⟩
      rfl
/-- The states behind a literal. -/
def LitEnd (f X : Int) (q : List Tok) : Prop := (X = 6 ∨ X = 12 ∨ X = 13 ∨ X = 14) ∧ ∀ p r, q = p :: r → moveF f X (tK p) = if tK p = 7 then 5 else if tK p = 8 then behF f else -1
theorem lit_atom {t : Tok} {pre : List Tok} (ht : tK t = 1) (h : ∀ p r, pre = p :: r → tK p = 5) : litF (t :: pre) = (1, atomF (t :: pre), 0, noTerm, noTerm, tO t) := by
  unfold litF
  simp only
  rw [if_neg (by omega)]
  split
  · rename_i o y
    rw [if_neg (by have := h _ _ rfl; omega)]
  · rfl
/-- A piece that is a literal: not empty, and something behind not. -/
def LitWf (p : List Tok) : Prop := ∃ t l, p = t :: l ∧ (tK t = 10 → l ≠ [])
def ClauseWf (s : List Tok) : Prop := ∃ a rest, cutF 9 0 [] s = a :: rest ∧ a ≠ [] ∧ (rest = [] ∨ ∃ b, rest = [b] ∧ ∀ p ∈ cutF 7 0 [] b, LitWf p)
theorem lit_chk {f : Int} {bad : Flt} {c li te : Nat} (hc : capC f c = false) (hli : li + 1 ≤ 16) (hte : te ≤ 8) {t : Tok} {l : List Tok} (hg : GoodR (t :: l) bad) :
    (∀ e, litD bad (t :: l) = .error e → chkF f bad 5 c li te (t :: l) = e ∧ e.1 ≠ 0) ∧
    ∀ x q, litD bad (t :: l) = .ok (x, q) → GoodR q bad ∧ (∃ te' X, te' ≤ 8 ∧ chkF f bad 5 c li te (t :: l) = chkF f bad X c (li + 1) te' q ∧ LitEnd f X q) ∧
      ∃ pre, t :: l = pre ++ q ∧ x = litF pre ∧ LitWf pre ∧ ∀ k, k = 7 ∨ k = 8 ∨ k = 9 → Pass k pre := by
  have m5 : ∀ k, moveF f 5 k = if k = 1 then 6 else if k = 10 then 7 else if isT k true = true then 8 else -1 := fun k => by simp [moveF]
  have c5 : ∀ k, tkC 5 k c = c := fun k => by unfold tkC; rw [if_neg (by omega)]
  have l5 : ∀ k, k ≠ 9 → tkL 5 k li = li + 1 := fun k hk => by unfold tkL; rw [if_neg hk, if_pos rfl]
  have t5 : ∀ k, k ≠ 5 → tkT 5 k te = te := fun k hk => by unfold tkT; rw [if_neg hk, if_neg (by omega)]
  have ho := over_ok hc hli hte
  rw [litD.eq_def]
  simp only
  by_cases h10 : tK t = 10
  · rw [if_pos h10]
    have hon : chkF f bad 5 c li te (t :: l) = chkF f bad 7 c (li + 1) te l := chk_on (by rw [m5, if_neg (by omega), if_pos h10]) (by decide) (c5 _) (l5 _ (by omega)) (t5 _ (by omega)) ho
    have hgl := hg.tail (by omega)
    rw [hon]
    cases l with
    | nil => exact ⟨fun e h => by rw [atomD] at h; cases h; exact ⟨rfl, hgl.nil⟩, fun a q h => by rw [atomD] at h; cases h⟩
    | cons n r =>
      by_cases h1 : tK n = 1
      · have hon2 : chkF f bad 7 c (li + 1) te (n :: r) = chkF f bad 12 c (li + 1) te r := chk_on (by rw [h1]; simp [moveF]) (by decide) (by unfold tkC; rw [if_neg (by omega)]) (by unfold tkL; rw [if_neg (by omega), if_neg (by omega)]) (by unfold tkT; rw [if_neg (by omega), if_neg (by omega)]) ho
        obtain ⟨i1, i2⟩ := atom_chk (f := f) (N := 12) argSt_lit (by simp [moveF]) (by simp) hc hli hte h1 (hgl.tail (by omega))
        rw [hon2]
        cases ha : atomD bad true (n :: r) with
        | error e => exact ⟨fun e' h => by cases h; exact i1 e ha, fun a q h => by cases h⟩
        | ok aq =>
          obtain ⟨a, q⟩ := aq
          refine ⟨fun e' h => (by cases h), fun a' q' h => ?_⟩
          cases h
          obtain ⟨j1, ⟨te', X, j2, j3, j4⟩, pre, j5, j6, j7, j8⟩ := i2 a q ha
          refine ⟨j1, ⟨te', X, j2, j3, ?_⟩, t :: n :: pre, by rw [j5]; rfl, ?_, ⟨t, n :: pre, rfl, fun _ => by simp⟩, fun k hk => Pass.app (a := [t]) (Pass.one (by omega) (by omega) (by omega)) (j7 k hk)⟩
          · rcases j4 with rfl | ⟨rfl, j4, j4'⟩
            · exact ⟨by simp, fun p r' _ => by simp [moveF]⟩
            · exact ⟨by simp, fun p r' h => by have := j4' p r' h; simp [moveF, this]⟩
          · rw [j6]; unfold litF; simp only [if_pos h10]
      · rw [atomD_no h1]
        refine ⟨fun e h => ?_, fun a q h => by cases h⟩
        cases h
        exact ⟨chk_none (by simp [moveF, h1]), refuse_ne _⟩
  rw [if_neg h10]
  by_cases h1 : tK t = 1 ∧ opBeh l = false
  · rw [if_pos h1]
    have hon : chkF f bad 5 c li te (t :: l) = chkF f bad 6 c (li + 1) te l := chk_on (by rw [m5, if_pos h1.1]) (by decide) (c5 _) (l5 _ (by omega)) (t5 _ (by omega)) ho
    obtain ⟨i1, i2⟩ := atom_chk (f := f) (N := 6) argSt_lit (by simp [moveF]) (by simp) hc hli hte h1.1 (hg.tail (by omega))
    rw [hon]
    cases ha : atomD bad true (t :: l) with
    | error e => exact ⟨fun e' h => by cases h; exact i1 e ha, fun a q h => by cases h⟩
    | ok aq =>
      obtain ⟨a, q⟩ := aq
      refine ⟨fun e' h => (by cases h), fun a' q' h => ?_⟩
      cases h
      obtain ⟨j1, ⟨te', X, j2, j3, j4⟩, pre, j5, j6, j7, j8⟩ := i2 a q ha
      refine ⟨j1, ⟨te', X, j2, j3, ?_⟩, t :: pre, by rw [j5]; rfl, by rw [lit_atom h1.1 j8, j6], ⟨t, pre, rfl, fun q => absurd q h10⟩, j7⟩
      rcases j4 with rfl | ⟨rfl, j4, j4'⟩
      · exact ⟨by simp, fun p r' _ => by simp [moveF]⟩
      · refine ⟨by simp, fun p r' h => ?_⟩
        have h5 := j4' p r' h
        have h11 : tK p ≠ 11 := by
          have := h1.2
          rw [← j4, h] at this
          simpa [opBeh] using this
        simp [moveF, h5, h11]
  rw [if_neg h1]
  by_cases hT : isT (tK t) true = true
  · rw [if_neg (by simp [hT])]
    have hk := isT_k hT
    obtain ⟨X1, hX1, hX6, hm1⟩ : ∃ X1, (X1 = 6 ∨ X1 = 8) ∧ (X1 = 6 → opBeh l = true) ∧ moveF f 5 (tK t) = X1 := by
      by_cases q : tK t = 1
      · refine ⟨6, .inl rfl, fun _ => ?_, by rw [m5, if_pos q]⟩
        cases h : opBeh l
        · exact absurd ⟨q, h⟩ h1
        · rfl
      · exact ⟨8, .inr rfl, fun h => absurd h (by decide), by rw [m5, if_neg q, if_neg h10, if_pos hT]⟩
    have hon : chkF f bad 5 c li te (t :: l) = chkF f bad X1 c (li + 1) te l := chk_on hm1 (by omega) (c5 _) (l5 _ (by omega)) (t5 _ (by omega)) ho
    have hgl := hg.tail (by omega)
    rw [hon]
    cases l with
    | nil => exact ⟨fun e h => by cases h; exact ⟨rfl, hgl.nil⟩, fun a q h => by cases h⟩
    | cons o r =>
      simp only
      by_cases h11 : tK o = 11
      · rw [if_neg (by simp [h11])]
        have hon2 : chkF f bad X1 c (li + 1) te (o :: r) = chkF f bad 11 c (li + 1) te r := chk_on (by rw [h11]; rcases hX1 with rfl | rfl <;> simp [moveF]) (by decide) (by unfold tkC; rw [if_neg (by omega)]) (by unfold tkL; rw [if_neg (by omega), if_neg (by omega)]) (by unfold tkT; rw [if_neg (by omega), if_neg (by omega)]) ho
        have hgr := hgl.tail (by omega)
        rw [hon2]
        cases r with
        | nil => exact ⟨fun e h => by cases h; exact ⟨rfl, hgr.nil⟩, fun a q h => by cases h⟩
        | cons y q =>
          simp only
          by_cases hy : isT (tK y) true = true
          · rw [if_neg (by simp [hy])]
            refine ⟨fun e h => (by cases h), fun a q' h => ?_⟩
            cases h
            have hky := isT_k hy
            refine ⟨hgr.tail (by omega), ⟨te, 14, hte, chk_on (by simp [moveF, hy]) (by decide) (by unfold tkC; rw [if_neg (by omega)]) (by unfold tkL; rw [if_neg (by omega), if_neg (by omega)]) (by unfold tkT; rw [if_neg (by omega), if_neg (by omega)]) ho, by simp, fun p r' _ => by simp [moveF]⟩, [t, o, y], rfl, ?_, ⟨t, [o, y], rfl, fun _ => by simp⟩, fun k hk' => ?_⟩
            · unfold litF; simp only; rw [if_neg h10, if_pos h11]
            · exact (Pass.one (t := t) (by omega) (by omega) (by omega)).app ((Pass.one (t := o) (by omega) (by omega) (by omega)).app (Pass.one (t := y) (by omega) (by omega) (by omega)))
          · rw [if_pos (by simpa using hy)]
            refine ⟨fun e h => ?_, fun a q h => by cases h⟩
            cases h
            exact ⟨chk_none (by simp [moveF, hy]), refuse_ne _⟩
      · rw [if_pos h11]
        refine ⟨fun e h => ?_, fun a q h => by cases h⟩
        cases h
        rcases hX1 with rfl | rfl
        · have := hX6 rfl
          simp [opBeh, h11] at this
        · exact ⟨chk_none (by simp [moveF, h11]), refuse_ne _⟩
  · rw [if_pos (by simpa using hT)]
    refine ⟨fun e h => ?_, fun a q h => by cases h⟩
    cases h
    refine ⟨chk_none ?_, refuse_ne _⟩
    rw [m5, if_neg, if_neg h10, if_neg hT]
    intro q; rw [q] at hT; exact hT rfl
theorem body_chk {f : Int} {bad : Flt} {c : Nat} (hc : capC f c = false) : ∀ (l : List Tok) (acc : List LitT) (te : Nat), acc.length ≤ 16 → te ≤ 8 → GoodR l bad →
    (∀ e, bodyD bad acc l = .error e → chkF f bad 5 c acc.length te l = e ∧ e.1 ≠ 0) ∧
    ∀ a q, bodyD bad acc l = .ok (a, q) → GoodR q bad ∧ (∃ li' te', li' ≤ 16 ∧ te' ≤ 8 ∧ chkF f bad 5 c acc.length te l = chkF f bad (behF f) c li' te' q) ∧
      ∃ pre d, l = pre ++ d :: q ∧ tK d = 8 ∧ a = acc ++ bodyF3 pre ∧ Pass 8 pre ∧ Pass 9 pre ∧ ∀ p ∈ cutF 7 0 [] pre, LitWf p
  | [], acc, te, _, _, hg => by
    rw [bodyD_nil]
    exact ⟨fun e h => by cases h; exact ⟨rfl, hg.nil⟩, fun a q h => by cases h⟩
  | t :: l, acc, te, hacc, hte, hg => by
    by_cases hf : 16 ≤ acc.length ∧ (tK t = 10 ∨ isT (tK t) true = true)
    · rw [bodyD_full hf]
      refine ⟨fun e h => ?_, fun a q h => by cases h⟩
      cases h
      have hk : tK t = 10 ∨ tK t = 1 ∨ tK t = 2 ∨ tK t = 3 ∨ tK t = 4 := hf.2.imp id isT_k
      refine ⟨chk_over (e := 23) ?_ ?_ (by decide), (show (23 : Int) ≠ 0 by decide)⟩
      · rw [show moveF f 5 (tK t) = if tK t = 1 then 6 else if tK t = 10 then 7 else if isT (tK t) true = true then 8 else -1 by simp [moveF]]
        rcases hf.2 with q | q
        · rw [if_neg (by omega), if_pos q]; decide
        · rw [if_pos q]; split
          · decide
          · split <;> decide
      · have h1 : tkC 5 (tK t) c = c := by unfold tkC; rw [if_neg (by omega)]
        have h2 : tkL 5 (tK t) acc.length = acc.length + 1 := by unfold tkL; rw [if_neg (by omega), if_pos rfl]
        rw [h1, h2]; unfold overF; rw [if_neg (by simp [hc]), if_pos (by omega)]
    by_cases h16 : 16 ≤ acc.length
    · have hn : tK t ≠ 10 ∧ isT (tK t) true = false := ⟨fun q => hf ⟨h16, .inl q⟩, by cases h : isT (tK t) true; rfl; exact absurd ⟨h16, .inr h⟩ hf⟩
      have h1 : tK t ≠ 1 := fun q => by have := hn.2; rw [q] at this; cases this
      have he : litD bad (t :: l) = .error (refuseD t) := by rw [litD.eq_def]; simp only; rw [if_neg hn.1, if_neg (fun q => h1 q.1), if_pos hn.2]
      rw [bodyD_err hf he]
      refine ⟨fun e h => ?_, fun a q h => by cases h⟩
      cases h
      exact ⟨chk_none (by simp [moveF, hn.1, hn.2, h1]), refuse_ne _⟩
    obtain ⟨i1, i2⟩ := lit_chk (f := f) (te := te) hc (show acc.length + 1 ≤ 16 by omega) hte hg
    cases he : litD bad (t :: l) with
    | error e =>
      rw [bodyD_err hf he]
      exact ⟨fun e' h => by cases h; exact i1 e he, fun a q h => by cases h⟩
    | ok xq =>
      obtain ⟨x, q⟩ := xq
      rw [bodyD_lit hf he]
      obtain ⟨j1, ⟨te', X, j2, j3, jX, j4⟩, pre, j5, j6, jw, j7⟩ := i2 x q he
      rw [j3]
      have hqlen := litD_len he
      cases q with
      | nil => exact ⟨fun e h => by cases h; exact ⟨rfl, j1.nil⟩, fun a q h => by cases h⟩
      | cons p r =>
        simp only
        have hmv := j4 p r rfl
        have hsC : tkC X (tK p) c = c := by unfold tkC; rw [if_neg (by omega)]
        have hsL : tK p ≠ 9 → tkL X (tK p) (acc.length + 1) = acc.length + 1 := fun h => by unfold tkL; rw [if_neg h, if_neg (by omega)]
        have hsT : tK p ≠ 5 → tkT X (tK p) te' = te' := fun h => by unfold tkT; rw [if_neg h, if_neg (by omega)]
        have ho := over_ok hc (show acc.length + 1 ≤ 16 by omega) j2
        by_cases h7 : tK p = 7
        · rw [if_pos h7]
          rw [if_pos h7] at hmv
          have hon : chkF f bad X c (acc.length + 1) te' (p :: r) = chkF f bad 5 c (acc ++ [x]).length te' r := by
            rw [List.length_append, List.length_singleton]
            exact chk_on hmv (by decide) hsC (hsL (by omega)) (hsT (by omega)) ho
          rw [hon]
          obtain ⟨k1, k2⟩ := body_chk hc r (acc ++ [x]) te' (by rw [List.length_append, List.length_singleton]; omega) j2 (j1.tail (by omega))
          refine ⟨k1, fun a q h => ?_⟩
          obtain ⟨m1, m2, pre', d, m3, m4, m5, m6, m7, m8⟩ := k2 a q h
          have hc7 : cutF 7 0 [] (pre ++ p :: pre') = pre :: cutF 7 0 [] pre' := by
            have : depF 0 (tK p) = 0 := by unfold depF; rw [if_neg (by omega), if_neg (by omega)]
            rw [j7 7 (by simp), List.nil_append, cutF, if_pos ⟨h7, this⟩, this]
          refine ⟨m1, m2, pre ++ p :: pre', d, by rw [j5, m3]; simp, m4, ?_, ?_, ?_, ?_⟩
          · rw [m5, List.append_assoc]
            congr 1
            unfold bodyF3
            rw [hc7, j6]; rfl
          · exact (j7 8 (by simp)).app ((Pass.one (t := p) (by omega) (by omega) (by omega)).app m6)
          · exact (j7 9 (by simp)).app ((Pass.one (t := p) (by omega) (by omega) (by omega)).app m7)
          · intro z hz
            rw [hc7] at hz
            rcases List.mem_cons.1 hz with rfl | hz
            · exact jw
            · exact m8 z hz
        · rw [if_neg h7]
          rw [if_neg h7] at hmv
          by_cases h8 : tK p = 8
          · rw [if_pos h8]
            rw [if_pos h8] at hmv
            refine ⟨fun e h => (by cases h), fun a q h => ?_⟩
            cases h
            refine ⟨j1.tail (by omega), ⟨acc.length + 1, te', by omega, j2, chk_on hmv (by unfold behF; split <;> decide) hsC (hsL (by omega)) (hsT (by omega)) ho⟩, pre, p, j5, h8, ?_, j7 8 (by simp), j7 9 (by simp), fun z hz => by rw [(j7 7 (by simp)).all] at hz; rw [List.mem_singleton.1 hz]; exact jw⟩
            unfold bodyF3
            rw [(j7 7 (by simp)).all, j6]; rfl
          · rw [if_neg h8]
            rw [if_neg h8] at hmv
            refine ⟨fun e h => ?_, fun a q h => by cases h⟩
            cases h
            exact ⟨chk_none hmv, refuse_ne _⟩
termination_by l => l.length
decreasing_by simp only [List.length_cons] at *; omega
theorem clause_chk {bad : Flt} {c li te : Nat} (hli : li ≤ 16) (hte : te ≤ 8) {t : Tok} {l : List Tok} (h0 : tK t ≠ 0) (hc : c < 512 ∨ tK t ≠ 1) (hg : GoodR (t :: l) bad) :
    (∀ e, clauseD bad (t :: l) = .error e → chkF 0 bad 0 c li te (t :: l) = e ∧ e.1 ≠ 0) ∧
    ∀ x q, clauseD bad (t :: l) = .ok (x, q) → c < 512 ∧ GoodR q bad ∧ (∃ li' te', li' ≤ 16 ∧ te' ≤ 8 ∧ chkF 0 bad 0 c li te (t :: l) = chkF 0 bad 0 (c + 1) li' te' q) ∧ ∃ pre d, t :: l = pre ++ d :: q ∧ tK d = 8 ∧ Pass 8 pre ∧ x = clauseF pre ∧ ClauseWf pre := by
  by_cases h1 : tK t = 1
  case neg =>
    have he : clauseD bad (t :: l) = .error (refuseD t) := by unfold clauseD; rw [atomD_no h1]
    rw [he]
    refine ⟨fun e h => ?_, fun a q h => by cases h⟩
    cases h
    exact ⟨chk_none (by simp [moveF, h0, h1]), refuse_ne _⟩
  have hc5 : c < 512 := hc.resolve_right (fun q => q h1)
  have hcap : capC 0 (c + 1) = false := by unfold capC; simp; omega
  have hon : chkF 0 bad 0 c li te (t :: l) = chkF 0 bad 1 (c + 1) li te l := chk_on (by simp [moveF, h1]) (by decide) (by unfold tkC; rw [if_pos ⟨.inl rfl, h1⟩]) (by unfold tkL; rw [if_neg (by omega), if_neg (by omega)]) (by unfold tkT; rw [if_neg (by omega), if_neg (by omega)]) (over_ok hcap hli hte)
  rw [hon]
  obtain ⟨i1, i2⟩ := atom_chk (f := 0) (N := 1) (bad := bad) argSt_head (by simp [moveF]) (by simp) hcap hli hte h1 (hg.tail h0)
  unfold clauseD
  cases ha : atomD bad true (t :: l) with
  | error e => exact ⟨fun e' h => by cases h; exact i1 e ha, fun a q h => by cases h⟩
  | ok aq =>
    obtain ⟨a, q⟩ := aq
    obtain ⟨j1, ⟨te', X, j2, j3, j4⟩, pre, j5, j6, j7, j8⟩ := i2 a q ha
    rw [j3]
    simp only
    cases q with
    | nil => exact ⟨fun e h => by cases h; exact ⟨rfl, j1.nil⟩, fun a q h => by cases h⟩
    | cons p r =>
      simp only
      have hmv : moveF 0 X (tK p) = if tK p = 8 then 0 else if tK p = 9 then 5 else -1 := by
        rcases j4 with rfl | ⟨rfl, j4, j4'⟩
        · simp [moveF]
        · have := j4' p r rfl
          simp [moveF, this]
      have hX : X = 4 ∨ X = 1 := j4.imp id (fun q => q.1)
      have hsC : tkC X (tK p) (c + 1) = c + 1 := by unfold tkC; rw [if_neg (by omega)]
      have hsT : tK p ≠ 5 → tkT X (tK p) te' = te' := fun h => by unfold tkT; rw [if_neg h, if_neg (by omega)]
      by_cases h8 : tK p = 8
      · rw [if_pos h8]
        rw [if_pos h8] at hmv
        refine ⟨fun e h => (by cases h), fun a q h => ?_⟩
        cases h
        refine ⟨hc5, j1.tail (by omega), ⟨li, te', hli, j2, chk_on hmv (by decide) hsC (by unfold tkL; rw [if_neg (by omega), if_neg (by omega)]) (hsT (by omega)) (over_ok hcap hli j2)⟩, t :: pre, p, by rw [j5]; rfl, h8, j7 8 (by simp), ?_, t :: pre, [], (j7 9 (by simp)).all, by simp, .inl rfl⟩
        unfold clauseF
        rw [(j7 9 (by simp)).all, j6]
      rw [if_neg h8]
      rw [if_neg h8] at hmv
      by_cases h9 : tK p = 9
      · rw [if_pos h9]
        rw [if_pos h9] at hmv
        have hon2 : chkF 0 bad X (c + 1) li te' (p :: r) = chkF 0 bad 5 (c + 1) ([] : List LitT).length te' r := chk_on hmv (by decide) hsC (by unfold tkL; rw [if_pos h9]; rfl) (hsT (by omega)) (over_ok hcap (by simp) j2)
        rw [hon2]
        obtain ⟨k1, k2⟩ := body_chk (f := 0) hcap r [] te' (by simp) j2 (j1.tail (by omega))
        cases hb : bodyD bad [] r with
        | error e => exact ⟨fun e' h => by cases h; exact k1 e hb, fun a q h => by cases h⟩
        | ok bp =>
          obtain ⟨b, q⟩ := bp
          refine ⟨fun e h => (by cases h), fun x q' h => ?_⟩
          cases h
          obtain ⟨m1, m2, pre', d, m3, m4, m5, m6, m7, m8⟩ := k2 b q hb
          have hc9 : cutF 9 0 [] (t :: pre ++ p :: pre') = [t :: pre, pre'] := by
            have : depF 0 (tK p) = 0 := by unfold depF; rw [if_neg (by omega), if_neg (by omega)]
            rw [j7 9 (by simp), List.nil_append, cutF, if_pos ⟨h9, this⟩, this, m7.all]
          refine ⟨hc5, m1, m2, t :: pre ++ p :: pre', d, by rw [j5, m3]; simp, m4, ?_, ?_, t :: pre, [pre'], hc9, by simp, .inr ⟨pre', rfl, m8⟩⟩
          · exact (j7 8 (by simp)).app ((Pass.one (t := p) (by omega) (by omega) (by omega)).app m6)
          · unfold clauseF
            rw [hc9, m5, j6]; rfl
      · rw [if_neg h9]
        rw [if_neg h9] at hmv
        refine ⟨fun e h => ?_, fun a q h => by cases h⟩
        cases h
        exact ⟨chk_none hmv, refuse_ne _⟩
theorem fact_chk {bad : Flt} {c li te : Nat} (hli : li ≤ 16) (hte : te ≤ 8) {t : Tok} {l : List Tok} (h0 : tK t ≠ 0) (hc : c < 4096 ∨ tK t ≠ 1) (hg : GoodR (t :: l) bad) :
    (∀ e, factD1 bad (t :: l) = .error e → chkF 15 bad 15 c li te (t :: l) = e ∧ e.1 ≠ 0) ∧
    ∀ x q, factD1 bad (t :: l) = .ok (x, q) → c < 4096 ∧ GoodR q bad ∧ (∃ li' te', li' ≤ 16 ∧ te' ≤ 8 ∧ chkF 15 bad 15 c li te (t :: l) = chkF 15 bad 15 (c + 1) li' te' q) ∧ ∃ pre d, t :: l = pre ++ d :: q ∧ tK d = 8 ∧ Pass 8 pre ∧ x = atomF pre ∧ pre ≠ [] := by
  by_cases h1 : tK t = 1
  case neg =>
    have he : factD1 bad (t :: l) = .error (refuseD t) := by unfold factD1; rw [atomD_no h1]
    rw [he]
    refine ⟨fun e h => ?_, fun a q h => by cases h⟩
    cases h
    exact ⟨chk_none (by simp [moveF, h0, h1]), refuse_ne _⟩
  have hc5 : c < 4096 := hc.resolve_right (fun q => q h1)
  have hcap : capC 15 (c + 1) = false := by unfold capC; simp; omega
  have hon : chkF 15 bad 15 c li te (t :: l) = chkF 15 bad 16 (c + 1) li te l := chk_on (by simp [moveF, h1]) (by decide) (by unfold tkC; rw [if_pos ⟨.inr rfl, h1⟩]) (by unfold tkL; rw [if_neg (by omega), if_neg (by omega)]) (by unfold tkT; rw [if_neg (by omega), if_neg (by omega)]) (over_ok hcap hli hte)
  rw [hon]
  obtain ⟨i1, i2⟩ := atom_chk (f := 15) (N := 16) (bad := bad) argSt_fact (by simp [moveF]) (by simp) hcap hli hte h1 (hg.tail h0)
  unfold factD1
  cases ha : atomD bad false (t :: l) with
  | error e => exact ⟨fun e' h => by cases h; exact i1 e ha, fun a q h => by cases h⟩
  | ok aq =>
    obtain ⟨a, q⟩ := aq
    obtain ⟨j1, ⟨te', X, j2, j3, j4⟩, pre, j5, j6, j7, j8⟩ := i2 a q ha
    rw [j3]
    simp only
    cases q with
    | nil => exact ⟨fun e h => by cases h; exact ⟨rfl, j1.nil⟩, fun a q h => by cases h⟩
    | cons p r =>
      simp only
      have hmv : moveF 15 X (tK p) = if tK p = 8 then 15 else -1 := by
        rcases j4 with rfl | ⟨rfl, j4, j4'⟩
        · simp [moveF]
        · have := j4' p r rfl
          simp [moveF, this]
      have hX : X = 19 ∨ X = 16 := j4.imp id (fun q => q.1)
      by_cases h8 : tK p = 8
      · rw [if_pos h8]
        rw [if_pos h8] at hmv
        refine ⟨fun e h => (by cases h), fun a q h => ?_⟩
        cases h
        refine ⟨hc5, j1.tail (by omega), ⟨li, te', hli, j2, chk_on hmv (by decide) (by unfold tkC; rw [if_neg (by omega)]) (by unfold tkL; rw [if_neg (by omega), if_neg (by omega)]) (by unfold tkT; rw [if_neg (by omega), if_neg (by omega)]) (over_ok hcap hli j2)⟩, t :: pre, p, by rw [j5]; rfl, h8, j7 8 (by simp), j6, by simp⟩
      · rw [if_neg h8]
        rw [if_neg h8] at hmv
        refine ⟨fun e h => ?_, fun a q h => by cases h⟩
        cases h
        exact ⟨chk_none hmv, refuse_ne _⟩
theorem all_chk {α : Type} {f : Int} {bad : Flt} {m : Nat} {one : List Tok → PR α} {hone : ∀ l x q, one l = .ok (x, q) → q.length < l.length} {F : List Tok → α} {Gd : List Tok → Prop} (hf : (f = 0 ∧ m = 512) ∨ (f = 15 ∧ m = 4096))
    (H : ∀ {c li te : Nat}, li ≤ 16 → te ≤ 8 → ∀ {t : Tok} {l : List Tok}, tK t ≠ 0 → (c < m ∨ tK t ≠ 1) → GoodR (t :: l) bad →
      (∀ e, one (t :: l) = .error e → chkF f bad f c li te (t :: l) = e ∧ e.1 ≠ 0) ∧
      ∀ x q, one (t :: l) = .ok (x, q) → c < m ∧ GoodR q bad ∧ (∃ li' te', li' ≤ 16 ∧ te' ≤ 8 ∧ chkF f bad f c li te (t :: l) = chkF f bad f (c + 1) li' te' q) ∧ ∃ pre d, t :: l = pre ++ d :: q ∧ tK d = 8 ∧ Pass 8 pre ∧ x = F pre ∧ Gd pre) :
    ∀ (l : List Tok) (acc : List α) (li te : Nat), acc.length ≤ m → li ≤ 16 → te ≤ 8 → GoodR l bad →
      (∀ e, allD bad m one hone acc l = .error e → chkF f bad f acc.length li te l = e ∧ e.1 ≠ 0) ∧
      ∀ a, allD bad m one hone acc l = .ok a → chkF f bad f acc.length li te l = (0, 0) ∧ a = acc ++ (sentF l).map F ∧ a.length ≤ m ∧ ∀ s ∈ sentF l, Gd s
  | [], acc, li, te, _, _, _, hg => by
    rw [allD_nil]
    exact ⟨fun e h => by cases h; exact ⟨rfl, hg.nil⟩, fun a h => by cases h⟩
  | t :: l, acc, li, te, hacc, hli, hte, hg => by
    by_cases h0 : tK t = 0
    · rw [allD_end h0]
      refine ⟨fun e h => (by cases h), fun a h => ?_⟩
      cases h
      obtain ⟨rfl, rfl⟩ := hg.last h0
      have hs : sentF [t] = [] := by
        unfold sentF
        rw [cutF, if_neg (fun q => by omega)]
        rfl
      rw [hs]
      refine ⟨?_, by simp, hacc, fun s hs => by cases hs⟩
      have hcap : capC f acc.length = false := by unfold capC; rcases hf with ⟨rfl, rfl⟩ | ⟨rfl, rfl⟩ <;> simp <;> omega
      rw [chk_on (n := 26) (c' := acc.length) (l' := li) (t' := te) (by rcases hf with ⟨rfl, rfl⟩ | ⟨rfl, rfl⟩ <;> simp [moveF, h0]) (by decide) (by unfold tkC; rw [if_neg (by omega)]) (by unfold tkL; rw [if_neg (by omega), if_neg (by omega)]) (by unfold tkT; rw [if_neg (by omega), if_neg (by omega)]) (over_ok hcap hli hte)]
      rfl
    by_cases hfull : m ≤ acc.length ∧ tK t = 1
    · rw [allD_full h0 hfull]
      refine ⟨fun e h => ?_, fun a h => by cases h⟩
      cases h
      refine ⟨chk_over (e := 24) (by rcases hf with ⟨rfl, rfl⟩ | ⟨rfl, rfl⟩ <;> simp [moveF, hfull.2]) ?_ (by decide), (show (24 : Int) ≠ 0 by decide)⟩
      have : tkC f (tK t) acc.length = acc.length + 1 := by unfold tkC; rw [if_pos ⟨by omega, hfull.2⟩]
      rw [this]; unfold overF; rw [if_pos (by unfold capC; rcases hf with ⟨rfl, rfl⟩ | ⟨rfl, rfl⟩ <;> simp <;> omega)]
    have hcc : acc.length < m ∨ tK t ≠ 1 := by
      by_cases q : m ≤ acc.length
      · exact .inr (fun h => hfull ⟨q, h⟩)
      · exact .inl (by omega)
    obtain ⟨i1, i2⟩ := H (c := acc.length) hli hte h0 hcc hg
    cases he : one (t :: l) with
    | error e =>
      rw [allD_err h0 hfull he]
      exact ⟨fun e' h => by cases h; exact i1 e he, fun a h => by cases h⟩
    | ok xq =>
      obtain ⟨x, q⟩ := xq
      obtain ⟨j0, j1, ⟨li', te', j2, j3, j4⟩, pre, d, j5, j6, j7, j8, jG⟩ := i2 x q he
      rw [allD_on h0 hfull he, j4]
      have hlen : (acc ++ [x]).length = acc.length + 1 := by simp
      have hqlen := hone _ _ _ he
      obtain ⟨k1, k2⟩ := all_chk (hone := hone) hf H q (acc ++ [x]) li' te' (by omega) j2 j3 j1
      rw [← hlen]
      refine ⟨k1, fun a h => ?_⟩
      obtain ⟨m1, m2, m3, m4⟩ := k2 a h
      have hd : depF 0 (tK d) = 0 := by unfold depF; rw [if_neg (by omega), if_neg (by omega)]
      have hne : cutF 8 0 [] q ≠ [] := cutF_ne _ _ _ _
      have hs : sentF (t :: l) = pre :: sentF q := by
        unfold sentF
        rw [j5, j7, List.nil_append, cutF, if_pos ⟨j6, hd⟩, hd, List.dropLast_cons_of_ne_nil hne]
      rw [hs]
      refine ⟨m1, by rw [m2, j8]; simp, m3, fun s hs' => ?_⟩
      rcases List.mem_cons.1 hs' with rfl | hs'
      · exact jG
      · exact m4 s hs'
termination_by l => l.length
decreasing_by simp only [List.length_cons] at *; omega
theorem prog_same {bad : Flt} {l : List Tok} (hg : GoodR l bad) : (∀ e, progD bad [] l = .error e → chkF 0 bad 0 0 0 0 l = e ∧ e.1 ≠ 0) ∧ ∀ a, progD bad [] l = .ok a → chkF 0 bad 0 0 0 0 l = (0, 0) ∧ a = (sentF l).map clauseF ∧ a.length ≤ 512 ∧ ∀ s ∈ sentF l, ClauseWf s := by
  have := all_chk (hone := fun _ _ _ h => clauseD_len h) (F := clauseF) (Gd := ClauseWf) (.inl ⟨rfl, rfl⟩) (fun {c li te} h1 h2 {t l} h3 h4 h5 => clause_chk (bad := bad) h1 h2 h3 h4 h5) l [] 0 0 (by simp) (by omega) (by omega) hg
  exact ⟨this.1, fun a h => by have := this.2 a h; rwa [List.nil_append] at this⟩
theorem facts_same {bad : Flt} {l : List Tok} (hg : GoodR l bad) : (∀ e, factsD bad [] l = .error e → chkF 15 bad 15 0 0 0 l = e ∧ e.1 ≠ 0) ∧ ∀ a, factsD bad [] l = .ok a → chkF 15 bad 15 0 0 0 l = (0, 0) ∧ a = (sentF l).map atomF ∧ a.length ≤ 4096 ∧ ∀ s ∈ sentF l, s ≠ [] := by
  have := all_chk (hone := fun _ _ _ h => factD1_len h) (F := atomF) (Gd := fun s => s ≠ []) (.inr ⟨rfl, rfl⟩) (fun {c li te} h1 h2 {t l} h3 h4 h5 => fact_chk (bad := bad) h1 h2 h3 h4 h5) l [] 0 0 (by simp) (by omega) (by omega) hg
  exact ⟨this.1, fun a h => by have := this.2 a h; rwa [List.nil_append] at this⟩
theorem query_same {bad : Flt} {l : List Tok} (hg : GoodR l bad) : (∀ e, queryD bad l = .error e → chkF 5 bad 5 0 0 0 l = e ∧ e.1 ≠ 0) ∧ ∀ a, queryD bad l = .ok a → chkF 5 bad 5 0 0 0 l = (0, 0) ∧ ∃ pre, sentF l = [pre] ∧ a = bodyF3 pre ∧ ∀ p ∈ cutF 7 0 [] pre, LitWf p := by
  have hcap : capC 5 0 = false := rfl
  obtain ⟨i1, i2⟩ := body_chk (f := 5) hcap l [] 0 (by simp) (by omega) hg
  unfold queryD
  cases hb : bodyD bad [] l with
  | error e => exact ⟨fun e' h => by cases h; exact i1 e hb, fun a h => by cases h⟩
  | ok bq =>
    obtain ⟨b, q⟩ := bq
    obtain ⟨m1, ⟨li', te', m2, m3, m4⟩, pre, d, m5, m6, m7, m8, m9, m10⟩ := i2 b q hb
    simp only
    have hm4 : chkF 5 bad 5 0 0 0 l = chkF 5 bad 25 0 li' te' q := m4
    rw [hm4]
    cases q with
    | nil => exact ⟨fun e h => by cases h; exact ⟨rfl, m1.nil⟩, fun a h => by cases h⟩
    | cons t r =>
      simp only
      by_cases h0 : tK t = 0
      · rw [if_pos h0]
        obtain ⟨rfl, rfl⟩ := m1.last h0
        refine ⟨fun e h => (by cases h), fun a h => ?_⟩
        cases h
        have hd : depF 0 (tK d) = 0 := by unfold depF; rw [if_neg (by omega), if_neg (by omega)]
        refine ⟨?_, pre, ?_, by rw [m7]; rfl, m10⟩
        · rw [chk_on (n := 26) (c' := 0) (l' := li') (t' := te') (by simp [moveF, h0]) (by decide) (by unfold tkC; rw [if_neg (by omega)]) (by unfold tkL; rw [if_neg (by omega), if_neg (by omega)]) (by unfold tkT; rw [if_neg (by omega), if_neg (by omega)]) (over_ok hcap m2 m3)]
          rfl
        · unfold sentF
          rw [m5, m8, List.nil_append, cutF, if_pos ⟨m6, hd⟩, hd, cutF, if_neg (fun q => by omega)]
          rfl
      · rw [if_neg h0]
        refine ⟨fun e h => ?_, fun a h => by cases h⟩
        cases h
        exact ⟨chk_none (by simp [moveF, h0]), refuse_ne _⟩
theorem one_same {bad : Flt} {l : List Tok} (hg : GoodR l bad) : (∀ e, oneD bad l = .error e → chkF 20 bad 20 0 0 0 l = e ∧ e.1 ≠ 0) ∧ ∀ a, oneD bad l = .ok a → chkF 20 bad 20 0 0 0 l = (0, 0) ∧ a = atomF l ∧ l ≠ [] := by
  have hcap : capC 20 0 = false := rfl
  unfold oneD
  cases l with
  | nil => exact ⟨fun e h => by rw [atomD] at h; cases h; exact ⟨rfl, hg.nil⟩, fun a h => by rw [atomD] at h; cases h⟩
  | cons t l =>
    by_cases h1 : tK t = 1
    case neg =>
      rw [atomD_no h1]
      refine ⟨fun e h => ?_, fun a h => by cases h⟩
      cases h
      exact ⟨chk_none (by simp [moveF, h1]), refuse_ne _⟩
    have hon : chkF 20 bad 20 0 0 0 (t :: l) = chkF 20 bad 21 0 0 0 l := chk_on (by simp [moveF, h1]) (by decide) (by unfold tkC; rw [if_neg (by omega)]) (by unfold tkL; rw [if_neg (by omega), if_neg (by omega)]) (by unfold tkT; rw [if_neg (by omega), if_neg (by omega)]) (over_ok hcap (by omega) (by omega))
    obtain ⟨i1, i2⟩ := atom_chk (f := 20) (N := 21) (li := 0) (te := 0) (bad := bad) argSt_one (by simp [moveF]) (by simp) hcap (by omega) (by omega) h1 (hg.tail (by omega))
    rw [hon]
    cases ha : atomD bad false (t :: l) with
    | error e => exact ⟨fun e' h => by cases h; exact i1 e ha, fun a h => by cases h⟩
    | ok aq =>
      obtain ⟨a, q⟩ := aq
      obtain ⟨j1, ⟨te', X, j2, j3, j4⟩, pre, j5, j6, j7, j8⟩ := i2 a q ha
      rw [j3]
      simp only
      cases q with
      | nil => exact ⟨fun e h => by cases h; exact ⟨rfl, j1.nil⟩, fun a h => by cases h⟩
      | cons p r =>
        simp only
        have hmv : moveF 20 X (tK p) = if tK p = 0 then 26 else -1 := by
          rcases j4 with rfl | ⟨rfl, j4, j4'⟩
          · simp [moveF]
          · have := j4' p r rfl
            simp [moveF, this]
        have hX : X = 24 ∨ X = 21 := j4.imp id (fun q => q.1)
        by_cases h0 : tK p = 0
        · rw [if_pos h0]
          rw [if_pos h0] at hmv
          obtain ⟨rfl, rfl⟩ := j1.last h0
          refine ⟨fun e h => (by cases h), fun a h => ?_⟩
          cases h
          refine ⟨?_, ?_, by simp⟩
          · rw [chk_on hmv (by decide) (c' := 0) (l' := 0) (t' := te') (by unfold tkC; rw [if_neg (by omega)]) (by unfold tkL; rw [if_neg (by omega), if_neg (by omega)]) (by unfold tkT; rw [if_neg (by omega), if_neg (by omega)]) (over_ok hcap (by omega) j2)]
            rfl
          · rw [j6, j5]
            have : argsOf (pre ++ [p]) = argsOf pre := by
              unfold argsOf
              simp [List.filter_append, show isT (tK p) true = false by rw [h0]; rfl]
            show (tX t, argsOf pre, tO t) = (tX t, argsOf (pre ++ [p]), tO t)
            rw [this]
        · rw [if_neg h0]
          rw [if_neg h0] at hmv
          refine ⟨fun e h => ?_, fun a h => by cases h⟩
          cases h
          exact ⟨chk_none hmv, refuse_ne _⟩
theorem good_scan {s : List UInt8} {l : List Tok} {c : Int} {p : Nat} (h : (c ≠ 0 ∧ c ≠ 1 ∧ p < s.length ∧ ∀ t ∈ l, t.1 ≠ 0) ∨ (c = 0 ∧ p = 0 ∧ Ended l s.length)) : GoodR l (c, (p : Int)) := by
  rcases h with h | ⟨rfl, rfl, r, rfl, hr⟩
  · exact .inl ⟨h.1, h.2.2.2⟩
  · exact .inr ⟨rfl, r, endT s.length, rfl, rfl, hr⟩
end Edict
