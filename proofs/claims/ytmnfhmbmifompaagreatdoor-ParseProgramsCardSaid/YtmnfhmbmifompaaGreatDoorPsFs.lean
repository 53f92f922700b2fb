/- Facts, walked: the closure that reads, and the function. -/
import Derived.Test.YtmnfhmbmifompaaGreatDoorPsF
namespace Go.Ev
open Go Rep Edict
theorem rep_atom {u : U} {h : H} {x : AtomT} {cs : List Value} : rep u h x cs = (∃ v, cs = [str x.1, v, .int .i64 x.2.2] ∧ IsSl u h v x.2.1) := by
  apply propext
  obtain ⟨p, l, o⟩ := x
  simp only [rep_prod, rep_str, rep_int, rep_list]
  constructor
  · rintro ⟨a, b, rfl, rfl, c, d, rfl, ⟨v, rfl, hv⟩, rfl⟩
    exact ⟨v, rfl, hv⟩
  · rintro ⟨v, rfl, hv⟩
    exact ⟨_, _, rfl, rfl, _, _, rfl, ⟨v, rfl, hv⟩, rfl⟩
theorem sz_atom : sz AtomT = 3 := rfl
end Go.Ev
namespace Edict
theorem factD1_err {bad : Flt} {l : List Tok} {e : Flt} (h : atomD bad false l = .error e) : factD1 bad l = .error e := by unfold factD1; rw [h]
/-- What stands behind a fact. -/
def dotD {α : Type} (bad : Flt) (x : α) : List Tok → PR α
  | [] => .error bad
  | c :: r => if tK c = 8 then .ok (x, r) else .error (refuseD c)
theorem factD1_ok {bad : Flt} {l q : List Tok} {a : AtomT} (h : atomD bad false l = .ok (a, q)) : factD1 bad l = dotD bad a q := by unfold factD1; rw [h]; cases q <;> rfl
theorem dotD_no {α : Type} {bad : Flt} {x : α} {t : Tok} {r : List Tok} (h : tK t ≠ 8) : dotD bad x (t :: r) = .error (refuseD t) := by show (if tK t = 8 then _ else _) = _; rw [if_neg h]
theorem dotD_ok {α : Type} {bad : Flt} {x : α} {t : Tok} {r : List Tok} (h : tK t = 8) : dotD bad x (t :: r) = .ok (x, r) := by show (if tK t = 8 then _ else _) = _; rw [if_pos h]
theorem factsD_nil {bad : Flt} {acc : List AtomT} : factsD bad acc [] = .error bad := by unfold factsD; exact allD_nil
theorem factsD_end {bad : Flt} {acc : List AtomT} {t : Tok} {l : List Tok} (h : tK t = 0) : factsD bad acc (t :: l) = .ok acc := by unfold factsD; exact allD_end h
theorem factsD_full {bad : Flt} {acc : List AtomT} {t : Tok} {l : List Tok} (h0 : tK t ≠ 0) (h : 4096 ≤ acc.length ∧ tK t = 1) : factsD bad acc (t :: l) = .error (stopD 24 t) := by unfold factsD; exact allD_full h0 h
theorem factsD_err {bad : Flt} {acc : List AtomT} {t : Tok} {l : List Tok} {e : Flt} (h0 : tK t ≠ 0) (h : ¬ (4096 ≤ acc.length ∧ tK t = 1)) (he : factD1 bad (t :: l) = .error e) : factsD bad acc (t :: l) = .error e := by unfold factsD; exact allD_err h0 h he
theorem factsD_on {bad : Flt} {acc : List AtomT} {t : Tok} {l : List Tok} {x : AtomT} {q : List Tok} (h0 : tK t ≠ 0) (h : ¬ (4096 ≤ acc.length ∧ tK t = 1)) (he : factD1 bad (t :: l) = .ok (x, q)) : factsD bad acc (t :: l) = factsD bad (acc ++ [x]) q := by unfold factsD; exact allD_on h0 h he
theorem factsD_ne (bad : Flt) (l : List Tok) (hg : GoodR l bad) (e : Flt) (h : factsD bad [] l = .error e) : e.1 ≠ 0 := ((facts_same hg).1 e h).2
end Edict
namespace Go.Proofs.YtmnfhmbmifompaaGreatDoor
open Go Go.Ev Edict
end Go.Proofs.YtmnfhmbmifompaaGreatDoor
