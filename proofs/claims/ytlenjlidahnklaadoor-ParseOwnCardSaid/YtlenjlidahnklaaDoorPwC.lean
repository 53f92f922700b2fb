/- What parse says of two texts, as one value; with its lists' numbers, and without. -/
import Derived.Test.YtlenjlidahnklaaDoorPwQy
import Derived.Test.YtlenjlidahnklaaDoorPwPg
namespace Go.Ev
open Go Rep Edict HasTags
theorem isSl_map {α β : Type} [Rep α] [Rep β] {f : α → β} (hs : sz α = sz β) (hr : ∀ {u : U} {h : H} {x : α} {cs : List Value}, rep u h x cs → rep u h (f x) cs) {u : U} {h : H} {v : Value} {l : List α} (i : IsSl u h v l) : IsSl u h v (l.map f) := by
  obtain ⟨a, n, c, e, h1, h2, h3, h4, h5⟩ := i
  refine ⟨a, n, c, e, by rw [List.length_map]; exact h1, h2, h3, h4, fun hne => ?_⟩
  obtain ⟨b, o, k1, k2, k3, k4, k5⟩ := h5 (fun q => hne (by rw [q]; rfl))
  refine ⟨b, o, k1, k2, by rw [List.length_map, ← hs]; exact k3, by rw [List.length_map, ← hs]; exact k4, fun j y hy => ?_⟩
  rw [List.getElem?_map] at hy
  cases hx : l[j]? with
  | none => rw [hx] at hy; cases hy
  | some x =>
    rw [hx] at hy
    cases hy
    rw [← hs]
    exact hr (k5 j x hx)
theorem slg_isSl {α : Type} [Rep α] {u : U} {h : H} {g : SlG α} {v : Value} (r : rep u h g [v]) : IsSl u h v g.l := by
  obtain ⟨_, e, i, -⟩ := r
  cases e; exact i
theorem slg_le {α : Type} [Rep α] {u : U} {h : H} {g : SlG α} {cs : List Value} (r : rep u h g cs) : g.l.length ≤ 5000 := by
  obtain ⟨_, -, -, -, i⟩ := r
  exact i
theorem rep_pA {u : U} {h : H} {a : AtomG} {cs : List Value} (r : rep u h a cs) : rep u h (pA a) cs := by
  rw [rep_atomG] at r
  obtain ⟨v, rfl, r⟩ := r
  rw [rep_atom]; exact ⟨v, rfl, slg_isSl r⟩
theorem rep_pL {u : U} {h : H} {a : LitG} {cs : List Value} (r : rep u h a cs) : rep u h (pL a) cs := by
  rw [rep_litG] at r
  obtain ⟨v, rfl, r⟩ := r
  rw [rep_lit]; exact ⟨v, rfl, slg_isSl r⟩
theorem rep_pC {u : U} {h : H} {a : ClauseG} {cs : List Value} (r : rep u h a cs) : rep u h (pC a) cs := by
  rw [rep_clauseG] at r
  obtain ⟨v, w, rfl, r, s⟩ := r
  rw [rep_clause]; exact ⟨v, w, rfl, slg_isSl r, isSl_map (f := pL) rfl rep_pL (slg_isSl s)⟩
end Go.Ev
namespace Edict
open Go.Ev
abbrev AnsT := List ClauseT × (Int × Int × Int) × List LitT × List AtomT × List UInt8 × List ConstT
abbrev AnsG := SlG ClauseG × (Int × Int × Int) × SlG LitG × SlG AtomG × List UInt8 × SlG ConstT
def pAns (a : AnsG) : AnsT := (a.1.l.map pC, a.2.1, a.2.2.1.l.map pL, a.2.2.2.1.l.map pA, a.2.2.2.2.1, a.2.2.2.2.2.l)
def ansP (src : List UInt8) : List ClauseT × Flt := match parseF (fun b l => progD b [] l) src with | .error e => ([], e) | .ok a => (a, (0, 0))
def ansQ (src : List UInt8) : List LitT := match parseF queryD src with | .error _ => [] | .ok a => a
def ansA (src : List UInt8) : List AtomT := match parseF (fun b l => factsD b [] l) src with | .error _ => [] | .ok a => a
def ansO (src : List UInt8) : List UInt8 × List ConstT := match parseF oneD src with | .error _ => ([], []) | .ok a => (a.1, a.2.1.map constD)
def ansF (src other : List UInt8) : AnsT := ((ansP src).1, ((ansP src).2.1, 0, (ansP src).2.2), ansQ other, ansA other, (ansO other).1, (ansO other).2)
theorem oneD_le {src : List UInt8} {a : AtomT} (h : parseF oneD src = .ok a) : a.2.1.length ≤ 9 := by
  unfold parseF at h
  split at h
  · cases h
  · unfold oneD at h
    split at h
    · cases h
    · rename_i e
      have := atomD_le e
      split at h
      · cases h
      · split at h
        · simp only [Except.ok.injEq] at h
          rw [← h]; exact this
        · cases h
end Edict
namespace Go.Ev
open Go Rep Edict HasTags
def ansE (f : Int × Int × Int) (s : List UInt8) (v1 v2 v3 v4 : Value) : List Value := [v1, .int .i64 f.1, .int .i64 f.2.1, .int .i64 f.2.2, v2, v3, str s, v4]
theorem rep_ans {u : U} {h : H} {a : AnsT} {cs : List Value} : rep u h a cs = (∃ v1 v2 v3 v4, cs = ansE a.2.1 a.2.2.2.2.1 v1 v2 v3 v4 ∧ IsSl u h v1 a.1 ∧ IsSl u h v2 a.2.2.1 ∧ IsSl u h v3 a.2.2.2.1 ∧ IsSl u h v4 a.2.2.2.2.2) := by
  apply propext
  obtain ⟨p, ⟨f1, f2, f3⟩, q, l, s, o⟩ := a
  simp only [rep_prod, rep_str, rep_int, rep_list, ansE]
  constructor
  · rintro ⟨_, _, rfl, ⟨v1, rfl, i1⟩, _, _, rfl, ⟨_, _, rfl, rfl, _, _, rfl, rfl, rfl⟩, _, _, rfl, ⟨v2, rfl, i2⟩, _, _, rfl, ⟨v3, rfl, i3⟩, _, _, rfl, rfl, v4, rfl, i4⟩
    exact ⟨v1, v2, v3, v4, rfl, i1, i2, i3, i4⟩
  · rintro ⟨v1, v2, v3, v4, rfl, i1, i2, i3, i4⟩
    exact ⟨_, _, rfl, ⟨v1, rfl, i1⟩, _, _, rfl, ⟨_, _, rfl, rfl, _, _, rfl, rfl, rfl⟩, _, _, rfl, ⟨v2, rfl, i2⟩, _, _, rfl, ⟨v3, rfl, i3⟩, _, _, rfl, rfl, v4, rfl, i4⟩
theorem slg_one {α : Type} [Rep α] {u : U} {h : H} {g : SlG α} {cs : List Value} (r : rep u h g cs) : ∃ v, cs = [v] := ⟨r.choose, r.choose_spec.1⟩
theorem rep_ansG {u : U} {h : H} {a : AnsG} {cs : List Value} : rep u h a cs = (∃ v1 v2 v3 v4, cs = ansE a.2.1 a.2.2.2.2.1 v1 v2 v3 v4 ∧ rep u h a.1 [v1] ∧ rep u h a.2.2.1 [v2] ∧ rep u h a.2.2.2.1 [v3] ∧ rep u h a.2.2.2.2.2 [v4]) := by
  apply propext
  obtain ⟨p, ⟨f1, f2, f3⟩, q, l, s, o⟩ := a
  rw [rep_prod]
  simp only [rep_prod (α := Int × Int × Int), rep_prod (α := SlG LitG), rep_prod (α := SlG AtomG), rep_prod (α := List UInt8) (β := SlG ConstT), rep_prod (α := Int) (β := Int × Int), rep_prod (α := Int) (β := Int), rep_str, rep_int, ansE]
  constructor
  · rintro ⟨_, _, rfl, i1, _, _, rfl, ⟨_, _, rfl, rfl, _, _, rfl, rfl, rfl⟩, _, _, rfl, i2, _, _, rfl, i3, _, _, rfl, rfl, i4⟩
    obtain ⟨v1, rfl⟩ := slg_one i1
    obtain ⟨v2, rfl⟩ := slg_one i2
    obtain ⟨v3, rfl⟩ := slg_one i3
    obtain ⟨v4, rfl⟩ := slg_one i4
    exact ⟨v1, v2, v3, v4, rfl, i1, i2, i3, i4⟩
  · rintro ⟨v1, v2, v3, v4, rfl, i1, i2, i3, i4⟩
    exact ⟨_, _, rfl, i1, _, _, rfl, ⟨_, _, rfl, rfl, _, _, rfl, rfl, rfl⟩, _, _, rfl, i2, _, _, rfl, i3, _, _, rfl, rfl, i4⟩
theorem rep_pAns {u : U} {h : H} {a : AnsG} {cs : List Value} (r : rep u h a cs) : rep u h (pAns a) cs := by
  rw [rep_ansG] at r
  obtain ⟨v1, v2, v3, v4, rfl, i1, i2, i3, i4⟩ := r
  rw [rep_ans]
  exact ⟨v1, v2, v3, v4, rfl, isSl_map (f := pC) rfl rep_pC (slg_isSl i1), isSl_map (f := pL) rfl rep_pL (slg_isSl i2), isSl_map (f := pA) rfl rep_pA (slg_isSl i3), slg_isSl i4⟩
theorem tags_ans (a : AnsG) : tags a = tags a.1 ++ (tags a.2.2.1 ++ (tags a.2.2.2.1 ++ tags a.2.2.2.2.2)) := by
  show tags a.1 ++ (([] ++ ([] ++ [])) ++ (tags a.2.2.1 ++ (tags a.2.2.2.1 ++ ([] ++ tags a.2.2.2.2.2)))) = _
  simp
end Go.Ev
