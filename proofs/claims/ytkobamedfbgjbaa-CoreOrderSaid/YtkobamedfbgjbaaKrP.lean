/- What the laws of core make of a program and of facts: plainly. -/
import Derived.Test.YtkobamedfbgjbaaKbP
namespace Edict
abbrev Byts := List UInt8
def sizeF (s : Byts) : Nat := s.length + (s.map UInt8.toNat).sum
def predF (s : Byts) (n : Nat) : Byts := [UInt8.ofNat (97 + sizeF s % 13), UInt8.ofNat (48 + n)]
def plainF (t : Term) : Term :=
  if t.1 % 3 = 0 then (1, t.2.1, [], t.2.2.2)
  else if t.1 % 3 = 1 then (2, 0, [UInt8.ofNat (97 + sizeF t.2.2.1 % 26)], t.2.2.2)
  else (3, 0, t.2.2.1.take 255, t.2.2.2)
def wildN (t : Term) : Byts := if sizeF t.2.2.1 % 13 = 12 then [95] else [UInt8.ofNat (65 + sizeF t.2.2.1 % 13)]
def wildF (t : Term) : Term := (4, 0, wildN t, t.2.2.2)
def freeF (vs : Strs) (t : Term) : Term :=
  if t.1 % 2 = 1 then plainF t else if wildN t ≠ [95] ∧ wildN t ∈ vs then wildF t else if 16 ≤ vs.length then plainF t else wildF t
def freeV (vs : Strs) (t : Term) : Strs :=
  if t.1 % 2 = 1 then vs else if wildN t ≠ [95] ∧ wildN t ∈ vs then vs else if 16 ≤ vs.length then vs else vs ++ [wildN t]
def freeL : Strs → List Term → List Term
  | _, [] => []
  | vs, t :: l => freeF vs t :: freeL (freeV vs t) l
def tiedF (vs : Strs) (t : Term) : Term := if t.1 % 3 ≠ 1 ∧ wildN t ≠ [95] ∧ wildN t ∈ vs then wildF t else plainF t
def atomM (b : Bool) (vs : Strs) (a : Atom) : Atom := (predF a.1 (a.2.1.take 8).length, (if b then freeL vs (a.2.1.take 8) else (a.2.1.take 8).map (tiedF vs)), a.2.2)
def atomV (b : Bool) (vs : Strs) (a : Atom) : Strs := if b then (a.2.1.take 8).foldl freeV vs else vs
def zterm : Term := (0, 0, [], 0)
def zatom : Atom := ([], [], 0)
def zlit : Literal := (0, zatom, 0, zterm, zterm, 0)
def litV (vs : Strs) (l : Literal) : Strs := if l.1 % 4 < 2 then atomV true vs l.2.1 else vs
def litP (vs : Strs) (l : Literal) : Literal := (1, atomM true vs l.2.1, 0, zterm, zterm, l.2.2.2.2.2)
/-- A literal, vs: the variables ahead of it, ws: all of the body's. -/
def litM (ws vs : Strs) (l : Literal) : Literal :=
  if l.1 % 4 < 2 then litP vs l
  else if l.1 % 4 = 2 then (2, atomM false ws l.2.1, 0, zterm, zterm, l.2.2.2.2.2)
  else (3, zatom, 1 + l.2.2.1 % 6, tiedF ws l.2.2.2.1, tiedF ws l.2.2.2.2.1, l.2.2.2.2.2)
/-- Behind the first pass. -/
def lit1 (vs : Strs) (l : Literal) : Literal := if l.1 % 4 < 2 then litP vs l else zlit
def bodyL (f : Strs → Literal → Literal) : Strs → List Literal → List Literal
  | _, [] => []
  | vs, l :: r => f vs l :: bodyL f (litV vs l) r
def bodyV (ls : List Literal) : Strs := (ls.take 16).foldl litV []
def bodyM (ls : List Literal) : List Literal := bodyL (litM (bodyV ls)) [] (ls.take 16)
def clauseM (c : Clause) : Clause := (atomM false (bodyV c.2) c.1, bodyM c.2)
def rightF (p : List Clause) : List Clause := (p.take 200).map clauseM
def givenF (fs : List Atom) : List Atom := (fs.take 4096).map (atomM false [])
/-! ### Terms -/
theorem ofNat_small {n : Nat} (h : n < 256) : (UInt8.ofNat n).toNat = n := by
  rw [UInt8.toNat_ofNat']; omega
theorem small_of {n : Nat} (h1 : 97 ≤ n) (h2 : n ≤ 122) : smallB (UInt8.ofNat n).toNat = true := by
  rw [ofNat_small (by omega)]; simp [smallB]; omega
theorem big_of {n : Nat} (h1 : 65 ≤ n) (h2 : n ≤ 90) : bigB (UInt8.ofNat n).toNat = true := by
  rw [ofNat_small (by omega)]; simp [bigB]; omega
theorem ok_digit {n : Nat} (h : n ≤ 9) : okB (UInt8.ofNat (48 + n)).toNat = true := by
  rw [ofNat_small (by omega)]; simp [okB]; omega
theorem name1 {n : Nat} (h1 : 97 ≤ n) (h2 : n ≤ 122) : nameB [UInt8.ofNat n] = true := by
  have e := small_of h1 h2
  generalize UInt8.ofNat n = b at e ⊢
  simp [nameB, wordB, e]
theorem name_pred (s : Byts) {n : Nat} (h : n ≤ 8) : nameB (predF s n) = true := by
  have e := small_of (n := 97 + sizeF s % 13) (by omega) (by omega)
  have f := ok_digit (n := n) (by omega)
  unfold predF
  generalize UInt8.ofNat (97 + sizeF s % 13) = b at e ⊢
  generalize UInt8.ofNat (48 + n) = c at f ⊢
  simp [nameB, wordB, e, f]
theorem var_wild (t : Term) : varB (wildN t) = true := by
  unfold wildN; split
  · rfl
  · rename_i h
    have e := big_of (n := 65 + sizeF t.2.2.1 % 13) (by omega) (by omega)
    generalize UInt8.ofNat (65 + sizeF t.2.2.1 % 13) = b at e ⊢
    simp [varB, wordB, e]
theorem plain_kind (t : Term) : (plainF t).1 ≠ 4 := by unfold plainF; split; simp; split <;> simp
theorem plain_w (t : Term) : termW (plainF t) = 0 := by
  unfold plainF
  split
  · simp [termW, constW, validB]
  · split
    · have e := name1 (n := 97 + sizeF t.2.2.1 % 26) (by omega) (by omega)
      generalize UInt8.ofNat (97 + sizeF t.2.2.1 % 26) = b at e ⊢
      simp [termW, constW, validB, e]
    · simp [termW, constW, validB, List.length_take]; omega
theorem wild_w (t : Term) : termW (wildF t) = 0 := by simp [termW, wildF, var_wild]
theorem free_w (vs : Strs) (t : Term) : termW (freeF vs t) = 0 := by
  unfold freeF; split; exact plain_w t; split; exact wild_w t; split; exact plain_w t; exact wild_w t
/-- A term that binds nothing: a constant, or a variable of ws. -/
def Tied (ws : Strs) (t : Term) : Prop := termW t = 0 ∧ (t.1 = 4 → t.2.2.1 ≠ [95] ∧ t.2.2.1 ∈ ws)
theorem tied_ok (ws : Strs) (t : Term) : Tied ws (tiedF ws t) := by
  unfold tiedF
  split
  · rename_i h; exact ⟨wild_w t, fun _ => h.2⟩
  · exact ⟨plain_w t, fun h => absurd h (plain_kind t)⟩
theorem tied_nil (t : Term) : (tiedF [] t).1 ≠ 4 := by
  unfold tiedF
  rw [if_neg (by simp)]; exact plain_kind t
/-- The variables of a term, and behind it. -/
theorem free_varT (vs : Strs) (t : Term) : varT vs (freeF vs t) = freeV vs t := by
  unfold freeF freeV
  by_cases h1 : t.1 % 2 = 1
  · rw [if_pos h1, if_pos h1]; unfold varT; rw [if_neg (fun h => plain_kind t h.1)]
  · rw [if_neg h1, if_neg h1]
    by_cases h2 : wildN t ≠ [95] ∧ wildN t ∈ vs
    · rw [if_pos h2, if_pos h2]; unfold varT wildF; rw [if_neg (fun h => h.2.elim h2.1 (fun h => h h2.2))]
    · rw [if_neg h2, if_neg h2]
      by_cases h3 : 16 ≤ vs.length
      · rw [if_pos h3, if_pos h3]; unfold varT; rw [if_neg (fun h => plain_kind t h.1)]
      · rw [if_neg h3, if_neg h3]; unfold varT wildF
        rw [if_pos ⟨rfl, if h4 : wildN t = [95] then .inl h4 else .inr fun h => h2 ⟨h4, h⟩⟩]
theorem free_vars : ∀ (ts : List Term) (vs : Strs), (freeL vs ts).foldl varT vs = ts.foldl freeV vs
  | [], _ => rfl
  | t :: l, vs => by simp only [freeL, List.foldl_cons, free_varT]; exact free_vars l _
theorem freeV_len {vs : Strs} (h : vs.length ≤ 16) (t : Term) : (freeV vs t).length ≤ 16 := by
  unfold freeV; split; exact h; split; exact h; split; exact h; simp; omega
theorem freesV_len : ∀ (ts : List Term) {vs : Strs}, vs.length ≤ 16 → (ts.foldl freeV vs).length ≤ 16
  | [], _, h => h
  | t :: l, _, h => freesV_len l (freeV_len h t)
theorem freeL_len : ∀ (ts : List Term) (vs : Strs), (freeL vs ts).length = ts.length
  | [], _ => rfl
  | t :: l, vs => by simp [freeL, freeL_len l]
theorem freeL_w : ∀ (ts : List Term) (vs : Strs), ∀ t ∈ freeL vs ts, termW t = 0
  | [], _, t, h => by simp [freeL] at h
  | x :: l, vs, t, h => by
    rcases List.mem_cons.1 h with rfl | h
    · exact free_w vs x
    · exact freeL_w l _ t h
/-! ### Atoms and literals -/
theorem firstW_zero {α : Type} {f : α → Int} : ∀ {l : List α}, (∀ x ∈ l, f x = 0) → firstW f l = 0
  | [], _ => rfl
  | x :: l, h => by
    rw [firstW, if_pos (h x (List.mem_cons_self ..))]
    exact firstW_zero fun y hy => h y (List.mem_cons_of_mem _ hy)
theorem atomM_len (b : Bool) (vs : Strs) (a : Atom) : (atomM b vs a).2.1.length = (a.2.1.take 8).length := by
  unfold atomM; cases b <;> simp [freeL_len]
theorem take8 (l : List Term) : (l.take 8).length ≤ 8 := by rw [List.length_take]; exact Nat.min_le_left _ _
theorem atomM_w (b : Bool) (vs : Strs) (a : Atom) : atomW (atomM b vs a) = 0 := by
  have h8 := take8 a.2.1
  have hl := atomM_len b vs a
  unfold atomW
  rw [show (atomM b vs a).1 = predF a.1 (a.2.1.take 8).length from rfl, name_pred _ h8, if_pos rfl, hl, if_neg (by omega)]
  refine firstW_zero fun t ht => ?_
  unfold atomM at ht
  cases b
  · simp only [Bool.false_eq_true, if_false, List.mem_map] at ht
    obtain ⟨x, -, rfl⟩ := ht
    exact (tied_ok vs x).1
  · simp only [if_true] at ht
    exact freeL_w _ _ t ht
/-- A name by which its arity can be read. -/
def AtomN (a : Atom) : Prop := ∃ c : Nat, ((97 ≤ c ∧ c ≤ 109) ∨ c = 122) ∧ a.2.1.length ≤ 8 ∧ a.1 = [UInt8.ofNat c, UInt8.ofNat (48 + a.2.1.length)]
theorem atomM_n (b : Bool) (vs : Strs) (a : Atom) : AtomN (atomM b vs a) := by
  refine ⟨97 + sizeF a.1 % 13, .inl (by omega), ?_, ?_⟩
  · rw [atomM_len]; exact take8 _
  · rw [atomM_len]; rfl
theorem litM_w (ws vs : Strs) (l : Literal) : litW (litM ws vs l) = 0 := by
  unfold litM
  by_cases h1 : l.1 % 4 < 2
  · rw [if_pos h1]; simp [litW, litP, zterm, zeroB, atomM_w]
  · rw [if_neg h1]
    by_cases h2 : l.1 % 4 = 2
    · rw [if_pos h2]; simp [litW, zterm, zeroB, atomM_w]
    · rw [if_neg h2]
      have ha := (tied_ok ws l.2.2.2.1).1
      have hb := (tied_ok ws l.2.2.2.2.1).1
      have h0 : ¬ (1 + l.2.2.1 % 6 < 1 ∨ 6 < 1 + l.2.2.1 % 6) := by omega
      simp [litW, testW, zatom, ha, hb]
      omega
end Edict
