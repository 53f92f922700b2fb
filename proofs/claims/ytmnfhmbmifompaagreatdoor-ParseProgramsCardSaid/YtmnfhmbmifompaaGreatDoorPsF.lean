/- Fact, walked: the closure that reads, and the function. -/
import Derived.Test.YtmnfhmbmifompaaGreatDoorPsG
namespace Edict
abbrev ConstT := Int × Int × List UInt8
def constD (x : TermT) : ConstT := (x.1, x.2.1, x.2.2.1)
theorem argsD_most (bad : Flt) (vars : Bool) : ∀ (l : List Tok) (acc a : List TermT) (q : List Tok), argsD bad vars acc l = .ok (a, q) → acc.length ≤ 8 → a.length ≤ 8
  | [], acc, a, q, h, _ => by unfold argsD at h; cases h
  | [t], acc, a, q, h, _ => by
    rw [argsD_cons] at h
    split at h
    · cases h
    · split at h <;> cases h
  | t :: c :: r, acc, a, q, h, hl => by
    rw [argsD_cons] at h
    split at h
    · cases h
    · rename_i h8
      split at h
      · cases h
      · rename_i hT
        have h8' : acc.length < 8 := Nat.lt_of_not_le fun q => h8 ⟨q, by simpa using hT⟩
        simp only at h
        split at h
        · exact argsD_most bad vars r _ _ _ h (by simp; omega)
        · split at h
          · cases h; simp; omega
          · cases h
theorem atomD_most {bad : Flt} {vars : Bool} {l : List Tok} {a : AtomT} {q : List Tok} (h : atomD bad vars l = .ok (a, q)) : a.2.1.length ≤ 8 := by
  cases l with
  | nil => rw [atomD] at h; cases h
  | cons t l =>
    by_cases ht : tK t = 1
    case neg => rw [atomD_no ht] at h; cases h
    cases l with
    | nil => rw [atomD_nil ht] at h; cases h
    | cons p r =>
      rw [atomD_on ht] at h
      split at h
      · cases h; simp
      · split at h
        · cases h
        · rename_i a' q' ha
          cases h
          exact argsD_most _ _ _ _ _ _ ha (by simp)
/-- The text's end, behind what was read. -/
def endD {α : Type} (bad : Flt) (x : α) : List Tok → Except Flt α
  | [] => .error bad
  | t :: _ => if tK t = 0 then .ok x else .error (refuseD t)
theorem endD_no {α : Type} {bad : Flt} {x : α} {t : Tok} {r : List Tok} (h : tK t ≠ 0) : endD bad x (t :: r) = .error (refuseD t) := by show (if tK t = 0 then _ else _) = _; rw [if_neg h]
theorem endD_ok {α : Type} {bad : Flt} {x : α} {t : Tok} {r : List Tok} (h : tK t = 0) : endD bad x (t :: r) = .ok x := by show (if tK t = 0 then _ else _) = _; rw [if_pos h]
theorem oneD_err {bad : Flt} {l : List Tok} {e : Flt} (h : atomD bad false l = .error e) : oneD bad l = .error e := by unfold oneD; rw [h]
theorem oneD_ok {bad : Flt} {l q : List Tok} {a : AtomT} (h : atomD bad false l = .ok (a, q)) : oneD bad l = endD bad a q := by unfold oneD; rw [h]; cases q <;> rfl
/-- What a text's one fact is, or its fault. -/
def badF (src : List UInt8) : Flt := ((scanF src).2.1, ((scanF src).2.2 : Int))
def parseF {α : Type} (r : Flt → List Tok → Except Flt α) (src : List UInt8) : Except Flt α := if 65536 < src.length then .error (1, 0) else r (badF src) (scanF src).1
theorem good_src {src : List UInt8} (h : src.length ≤ 65536) : GoodR (scanF src).1 (badF src) := by
  have hs : scanF src = scanK src 0 := by unfold scanF scanK; rw [if_neg (by omega)]
  exact good_scan (scan_shape (s := src) (k := 0) (l := (scanF src).1) (c := (scanF src).2.1) (p := (scanF src).2.2) (Nat.zero_le _) (by rw [← hs]))
theorem parseF_ne {α : Type} {r : Flt → List Tok → Except Flt α} (hr : ∀ bad l, GoodR l bad → ∀ e, r bad l = .error e → e.1 ≠ 0) {src : List UInt8} {e : Flt} (h : parseF r src = .error e) : e.1 ≠ 0 := by
  unfold parseF at h
  split at h
  · cases h; exact (show (1 : Int) ≠ 0 by decide)
  · exact hr _ _ (good_src (by omega)) _ h
end Edict
namespace Go.Ev
open Go Rep Edict
theorem rep_const {u : U} {h : H} {x : ConstT} {cs : List Value} : rep u h x cs = (cs = [.int .i64 x.1, .int .i64 x.2.1, str x.2.2]) := by simp [rep_prod, rep_int, rep_str]
theorem sz_const : sz ConstT = 3 := rfl
end Go.Ev
namespace Go.Proofs.YtmnfhmbmifompaaGreatDoor
open Go Go.Ev Edict
def sF : S → S | .seq a _ => a | s => s
def sS : S → S | .seq _ b => b | s => s
end Go.Proofs.YtmnfhmbmifompaaGreatDoor
