/- What the reader of clauses makes of a row of tokens, in plain terms. -/
import Derived.Test.YtlenjlidahnklaaDoorPsN
namespace Edict
abbrev TermT := Int × Int × List UInt8 × Int
abbrev AtomT := List UInt8 × List TermT × Int
abbrev LitT := Int × AtomT × Int × TermT × TermT × Int
abbrev ClauseT := AtomT × List LitT
abbrev Flt := Int × Int
def tK (t : Tok) : Int := t.1
def tX (t : Tok) : List UInt8 := t.2.1
def tI (t : Tok) : Int := t.2.2.1
def tP (t : Tok) : Int := t.2.2.2.1
def tO (t : Tok) : Int := t.2.2.2.2.1
/-- Is it a term? -/
def isT (k : Int) (vars : Bool) : Bool := decide (k = 1) || decide (k = 3) || decide (k = 4) || (decide (k = 2) && vars)
def stopD (c : Int) (t : Tok) : Flt := (c, tO t)
def refuseD (t : Tok) : Flt := (if tK t = 0 then 21 else 20, tO t)
def termD (t : Tok) : TermT := if tK t = 3 then (1, tI t, [], tO t) else if tK t = 1 then (2, 0, tX t, tO t) else if tK t = 4 then (3, 0, tX t, tO t) else (4, 0, tX t, tO t)
def noTerm : TermT := (0, 0, [], 0)
def noAtom : AtomT := ([], [], 0)
abbrev PR (α : Type) := Except Flt (α × List Tok)
/-- The terms of an atom, from behind its bracket or a comma. -/
def argsD (bad : Flt) (vars : Bool) (acc : List TermT) : List Tok → PR (List TermT)
  | [] => .error bad
  | t :: l => if 8 ≤ acc.length ∧ isT (tK t) vars = true then .error (stopD 22 t) else if isT (tK t) vars = false then .error (refuseD t) else
    match l with
    | [] => .error bad
    | c :: r => if tK c = 7 then argsD bad vars (acc ++ [termD t]) r else if tK c = 6 then .ok (acc ++ [termD t], r) else .error (refuseD c)
theorem argsD_cons {bad : Flt} {vars : Bool} {acc : List TermT} {t : Tok} {l : List Tok} : argsD bad vars acc (t :: l) = if 8 ≤ acc.length ∧ isT (tK t) vars = true then .error (stopD 22 t) else if isT (tK t) vars = false then .error (refuseD t) else
    match l with
    | [] => .error bad
    | c :: r => if tK c = 7 then argsD bad vars (acc ++ [termD t]) r else if tK c = 6 then .ok (acc ++ [termD t], r) else .error (refuseD c) := by cases l <;> rw [argsD]
def atomD (bad : Flt) (vars : Bool) : List Tok → PR AtomT
  | [] => .error bad
  | t :: l => if tK t ≠ 1 then .error (refuseD t) else
    match l with
    | [] => .error bad
    | p :: r => if tK p ≠ 5 then .ok ((tX t, [], tO t), p :: r) else
      match argsD bad vars [] r with
      | .error e => .error e
      | .ok (a, q) => .ok ((tX t, a, tO t), q)
def opBeh : List Tok → Bool
  | o :: _ => decide (tK o = 11)
  | [] => false
def litD (bad : Flt) : List Tok → PR LitT
  | [] => .error bad
  | t :: l => if tK t = 10 then
      (match atomD bad true l with
      | .error e => .error e
      | .ok (a, q) => .ok ((2, a, 0, noTerm, noTerm, tO t), q))
    else if tK t = 1 ∧ opBeh l = false then
      (match atomD bad true (t :: l) with
      | .error e => .error e
      | .ok (a, q) => .ok ((1, a, 0, noTerm, noTerm, tO t), q))
    else if isT (tK t) true = false then .error (refuseD t) else
      match l with
      | [] => .error bad
      | o :: r => if tK o ≠ 11 then .error (refuseD o) else
        match r with
        | [] => .error bad
        | y :: q => if isT (tK y) true = false then .error (refuseD y) else .ok ((3, noAtom, tP o, termD t, termD y, tO t), q)
theorem argsD_len (bad : Flt) (vars : Bool) : ∀ (l : List Tok) (acc a : List TermT) (q : List Tok), argsD bad vars acc l = .ok (a, q) → q.length < l.length
  | [], acc, a, q, h => by unfold argsD at h; cases h
  | [t], acc, a, q, h => by
    unfold argsD at h
    split at h
    · cases h
    · split at h <;> cases h
  | t :: c :: r, acc, a, q, h => by
    unfold argsD at h
    split at h
    · cases h
    · split at h
      · cases h
      · simp only at h
        split at h
        · have := argsD_len bad vars r _ _ _ h
          simp only [List.length_cons]; omega
        · split at h
          · cases h; simp only [List.length_cons]; omega
          · cases h
theorem atomD_len {bad : Flt} {vars : Bool} {l : List Tok} {a : AtomT} {q : List Tok} (h : atomD bad vars l = .ok (a, q)) : q.length < l.length := by
  unfold atomD at h
  split at h
  · cases h
  · rename_i t l
    split at h
    · cases h
    · split at h
      · cases h
      · split at h
        · cases h; simp
        · split at h
          · cases h
          · rename_i a' q' ha
            cases h
            have := argsD_len _ _ _ _ _ _ ha
            simp only [List.length_cons]; omega
theorem litD_len {bad : Flt} {l : List Tok} {x : LitT} {q : List Tok} (h : litD bad l = .ok (x, q)) : q.length < l.length := by
  unfold litD at h
  split at h
  · cases h
  · rename_i t l
    split at h
    · split at h
      · cases h
      · rename_i ha
        cases h
        have := atomD_len ha
        simp only [List.length_cons]; omega
    · split at h
      · split at h
        · cases h
        · rename_i ha
          cases h
          exact atomD_len ha
      · split at h
        · cases h
        · split at h
          · cases h
          · split at h
            · cases h
            · split at h
              · cases h
              · split at h
                · cases h
                · cases h; simp only [List.length_cons]; omega
/-- Literals up to and with their dot. -/
def bodyD (bad : Flt) (acc : List LitT) (l : List Tok) : PR (List LitT) :=
  match l with
  | [] => .error bad
  | t :: l' => if 16 ≤ acc.length ∧ (tK t = 10 ∨ isT (tK t) true = true) then .error (stopD 23 t) else
    match h : litD bad (t :: l') with
    | .error e => .error e
    | .ok (_, []) => .error bad
    | .ok (x, c :: r) => if tK c = 7 then
        have : r.length < l'.length + 1 := by have := litD_len h; simp only [List.length_cons] at this; omega
        bodyD bad (acc ++ [x]) r
      else if tK c = 8 then .ok (acc ++ [x], r) else .error (refuseD c)
termination_by l.length
theorem bodyD_nil {bad : Flt} {acc : List LitT} : bodyD bad acc [] = .error bad := by rw [bodyD]
theorem bodyD_full {bad : Flt} {acc : List LitT} {t : Tok} {l : List Tok} (h : 16 ≤ acc.length ∧ (tK t = 10 ∨ isT (tK t) true = true)) : bodyD bad acc (t :: l) = .error (stopD 23 t) := by rw [bodyD, if_pos h]
theorem bodyD_err {bad : Flt} {acc : List LitT} {t : Tok} {l : List Tok} {e : Flt} (h : ¬ (16 ≤ acc.length ∧ (tK t = 10 ∨ isT (tK t) true = true))) (he : litD bad (t :: l) = .error e) : bodyD bad acc (t :: l) = .error e := by
  rw [bodyD, if_neg h]
  split
  · rename_i e' h'; rw [he] at h'; cases h'; rfl
  · rename_i h'; rw [he] at h'; cases h'
  · rename_i h'; rw [he] at h'; cases h'
theorem bodyD_lit {bad : Flt} {acc : List LitT} {t : Tok} {l : List Tok} {x : LitT} {q : List Tok} (h : ¬ (16 ≤ acc.length ∧ (tK t = 10 ∨ isT (tK t) true = true))) (he : litD bad (t :: l) = .ok (x, q)) :
    bodyD bad acc (t :: l) = match q with | [] => .error bad | c :: r => if tK c = 7 then bodyD bad (acc ++ [x]) r else if tK c = 8 then .ok (acc ++ [x], r) else .error (refuseD c) := by
  rw [bodyD, if_neg h]
  split
  · rename_i e' h'; rw [he] at h'; cases h'
  · rename_i x' h'; rw [he] at h'; cases h'; rfl
  · rename_i x' c' r' h'; rw [he] at h'; cases h'; rfl
theorem bodyD_len {bad : Flt} : ∀ {l : List Tok} {acc a : List LitT} {q : List Tok}, bodyD bad acc l = .ok (a, q) → q.length < l.length
  | [], acc, a, q, h => by rw [bodyD_nil] at h; cases h
  | t :: l, acc, a, q, h => by
    by_cases hf : 16 ≤ acc.length ∧ (tK t = 10 ∨ isT (tK t) true = true)
    · rw [bodyD_full hf] at h; cases h
    · cases he : litD bad (t :: l) with
      | error e => rw [bodyD_err hf he] at h; cases h
      | ok xq =>
        obtain ⟨x, r⟩ := xq
        rw [bodyD_lit hf he] at h
        have hl := litD_len he
        cases r with
        | nil => cases h
        | cons c r =>
          simp only [List.length_cons] at hl ⊢
          simp only at h
          split at h
          · have := bodyD_len (l := r) h
            omega
          · split at h
            · cases h; omega
            · cases h
termination_by l => l.length
decreasing_by simp only [List.length_cons] at *; omega
def clauseD (bad : Flt) (l : List Tok) : PR ClauseT :=
  match atomD bad true l with
  | .error e => .error e
  | .ok (a, q) =>
    match q with
    | [] => .error bad
    | c :: r => if tK c = 8 then .ok ((a, []), r) else if tK c = 9 then
        (match bodyD bad [] r with
        | .error e => .error e
        | .ok (b, p) => .ok ((a, b), p))
      else .error (refuseD c)
theorem clauseD_len {bad : Flt} {l : List Tok} {x : ClauseT} {q : List Tok} (h : clauseD bad l = .ok (x, q)) : q.length < l.length := by
  unfold clauseD at h
  split at h
  · cases h
  · rename_i a q' ha
    have h1 := atomD_len ha
    split at h
    · cases h
    · rename_i c r
      simp only [List.length_cons] at h1
      split at h
      · cases h; omega
      · split at h
        · split at h
          · cases h
          · rename_i hb
            cases h
            have := bodyD_len hb
            omega
        · cases h
/-- One fact and its dot. -/
def factD1 (bad : Flt) (l : List Tok) : PR AtomT :=
  match atomD bad false l with
  | .error e => .error e
  | .ok (a, q) =>
    match q with
    | [] => .error bad
    | c :: r => if tK c = 8 then .ok (a, r) else .error (refuseD c)
theorem factD1_len {bad : Flt} {l : List Tok} {x : AtomT} {q : List Tok} (h : factD1 bad l = .ok (x, q)) : q.length < l.length := by
  unfold factD1 at h
  split at h
  · cases h
  · rename_i a q' ha
    have h1 := atomD_len ha
    split at h
    · cases h
    · rename_i c r
      simp only [List.length_cons] at h1
      split at h
      · cases h; omega
      · cases h
/-- All of a text: with one, a row at a time, at most m. -/
def allD {α : Type} (bad : Flt) (m : Nat) (one : List Tok → PR α) (hone : ∀ l x q, one l = .ok (x, q) → q.length < l.length) (acc : List α) (l : List Tok) : Except Flt (List α) :=
  match l with
  | [] => .error bad
  | t :: l' => if tK t = 0 then .ok acc else if m ≤ acc.length ∧ tK t = 1 then .error (stopD 24 t) else
    match h : one (t :: l') with
    | .error e => .error e
    | .ok (x, q) => have := hone _ _ _ h; allD bad m one hone (acc ++ [x]) q
termination_by l.length
def progD (bad : Flt) (acc : List ClauseT) (l : List Tok) : Except Flt (List ClauseT) := allD bad 512 (clauseD bad) (fun _ _ _ h => clauseD_len h) acc l
def factsD (bad : Flt) (acc : List AtomT) (l : List Tok) : Except Flt (List AtomT) := allD bad 4096 (factD1 bad) (fun _ _ _ h => factD1_len h) acc l
section
variable {α : Type} {bad : Flt} {m : Nat} {one : List Tok → PR α} {hone : ∀ l x q, one l = .ok (x, q) → q.length < l.length} {acc : List α} {t : Tok} {l : List Tok}
theorem allD_nil : allD bad m one hone acc [] = .error bad := by rw [allD]
theorem allD_end (h : tK t = 0) : allD bad m one hone acc (t :: l) = .ok acc := by rw [allD, if_pos h]
theorem allD_full (h0 : tK t ≠ 0) (h : m ≤ acc.length ∧ tK t = 1) : allD bad m one hone acc (t :: l) = .error (stopD 24 t) := by rw [allD, if_neg h0, if_pos h]
theorem allD_err {e : Flt} (h0 : tK t ≠ 0) (h : ¬ (m ≤ acc.length ∧ tK t = 1)) (he : one (t :: l) = .error e) : allD bad m one hone acc (t :: l) = .error e := by
  rw [allD, if_neg h0, if_neg h]
  split
  · rename_i e' h'; rw [he] at h'; cases h'; rfl
  · rename_i h'; rw [he] at h'; cases h'
theorem allD_on {x : α} {q : List Tok} (h0 : tK t ≠ 0) (h : ¬ (m ≤ acc.length ∧ tK t = 1)) (he : one (t :: l) = .ok (x, q)) : allD bad m one hone acc (t :: l) = allD bad m one hone (acc ++ [x]) q := by
  rw [allD, if_neg h0, if_neg h]
  split
  · rename_i e' h'; rw [he] at h'; cases h'
  · rename_i h'; rw [he] at h'; cases h'; rfl
end
/-- A query: literals and the text's end. -/
def queryD (bad : Flt) (l : List Tok) : Except Flt (List LitT) :=
  match bodyD bad [] l with
  | .error e => .error e
  | .ok (b, q) =>
    match q with
    | [] => .error bad
    | t :: _ => if tK t = 0 then .ok b else .error (refuseD t)
/-- One fact and the text's end. -/
def oneD (bad : Flt) (l : List Tok) : Except Flt AtomT :=
  match atomD bad false l with
  | .error e => .error e
  | .ok (a, q) =>
    match q with
    | [] => .error bad
    | t :: _ => if tK t = 0 then .ok a else .error (refuseD t)
end Edict
