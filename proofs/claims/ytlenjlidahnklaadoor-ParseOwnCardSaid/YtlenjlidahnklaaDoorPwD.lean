/- The book's lists: rooms, marks, entries. -/
import Derived.Test.YtlenjlidahnklaaDoorPwC
namespace Go.Ev
open Go Rep Edict
theorem Room.mono {s : Nat} {u u' : U} {h h' : H} {v : Value} {n : Nat} {t : Option Nat} (r : Room s h v n t) (ge : Ge u h u' h') : Room s h' v n t := by
  unfold Room at r ⊢
  cases t with
  | none => exact r
  | some b =>
    obtain ⟨c, r1, r2, r3, r4, r5, r6⟩ := r
    exact ⟨c, r1, r2, r3, Nat.lt_of_lt_of_le r4 ge.sz, by rw [(ge.hs _ r4).1]; exact r5, by rw [(ge.hs _ r4).2]; exact r6⟩
/-- Cells with a mark in cell p. -/
structure MkE (s p : Nat) (k9 : Bool) where
  m : Int
def mkRep (s p : Nat) (k9 : Bool) (m : Int) (cs : List Value) : Prop := cs.length = s + 1 ∧ cs.all okCell = true ∧ cs[p]? = some (.int .i64 m) ∧ (k9 = true → cs[0]? = some (.int .i64 9))
instance repMkE {s p : Nat} {k9 : Bool} : Rep (MkE s p k9) where
  sz := s + 1
  rep _ _ x cs := mkRep s p k9 x.m cs
  wf _ := True
  bulk _ := 1
  szp := Nat.succ_pos _
  len h := h.1
  ok h := h.2.1
  mono _ h := h
  pos _ := Nat.le_refl _
/-- A slice's value, with room of its own. -/
structure RmE (s : Nat) where
  n : Nat
  t : Option Nat
instance repRmE {s : Nat} : Rep (RmE s) where
  sz := 1
  rep _ h g cs := ∃ v, cs = [v] ∧ Room (s + 1) h v g.n g.t
  wf _ := True
  bulk _ := 1
  szp := Nat.one_pos
  len := fun ⟨v, e, _⟩ => by rw [e]; rfl
  ok := fun {u h g cs} ⟨v, e, r⟩ => by
    rw [e]
    unfold Room at r
    split at r
    · rw [r.1]; rfl
    · obtain ⟨c, r, -⟩ := r; rw [r]; rfl
  mono := fun ge ⟨v, e, r⟩ => ⟨v, e, r.mono ge⟩
  pos _ := Nat.le_refl _
theorem mk_cell {s p o b : Nat} {k9 : Bool} {m : Int} {h : H} (r : mkRep s p k9 m (hvs h b o (s + 1))) (hp : p < s + 1) : Go.Ev.hv h b (o + p) = .int .i64 m ∧ (k9 = true → Go.Ev.hv h b o = .int .i64 9) := by
  obtain ⟨-, -, r1, r2⟩ := r
  unfold hvs at r1 r2
  rw [List.getElem?_map, List.getElem?_range hp] at r1
  refine ⟨by simpa using r1, fun q => ?_⟩
  have := r2 q
  rw [List.getElem?_map, List.getElem?_range (Nat.succ_pos _)] at this
  simpa using this
end Go.Ev
namespace Edict
open Go Go.Ev
def markF (i j : Nat) : Int := IntKind.i64.wrap (IntKind.i64.wrap (-1 - IntKind.i64.wrap (100000 * (i : Int))) - (j : Int))
def marks {s p : Nat} {k9 : Bool} (i n : Nat) : List (MkE s p k9) := (List.range n).map fun j => ⟨markF i j⟩
theorem marks_len {s p : Nat} {k9 : Bool} (i n : Nat) : (marks (s := s) (p := p) (k9 := k9) i n).length = n := by simp [marks]
theorem marks_at {s p : Nat} {k9 : Bool} {i n j : Nat} (h : j < n) : (marks (s := s) (p := p) (k9 := k9) i n)[j]? = some ⟨markF i j⟩ := by simp [marks, h]
theorem marks_succ {s p : Nat} {k9 : Bool} (i n : Nat) : marks (s := s) (p := p) (k9 := k9) i (n + 1) = marks i n ++ [⟨markF i n⟩] := by simp [marks, List.range_succ]
/-- What the longer lists and the lists of the book hold in the end. -/
def mks {s : Nat} (p : Nat) (k9 : Bool) (d : Nat) (L : List (RmE s)) : List (List (MkE s p k9)) := L.mapIdx fun i g => marks i (g.n + d)
theorem mks_len {s p d : Nat} {k9 : Bool} (L : List (RmE s)) : (mks p k9 d L).length = L.length := by simp [mks]
theorem mks_at {s p d : Nat} {k9 : Bool} {L : List (RmE s)} {i : Nat} {g : RmE s} (h : L[i]? = some g) : (mks p k9 d L)[i]? = some (marks i (g.n + d)) := by simp [mks, h]
/-! ### Which lists are marked -/
def rtags {s : Nat} (L : List (RmE s)) : List Nat := L.flatMap fun g => g.t.toList
def MarkedE (s p : Nat) (k9 : Bool) (h : H) (i : Nat) (g : RmE s) : Prop := ∀ b, g.t = some b → ∀ j, j < g.n → mkRep s p k9 (markF i j) (hvs h b (j * (s + 1)) (s + 1))
def OkE {s : Nat} (h : H) (g : RmE s) : Prop := ∀ b, g.t = some b → ∀ j, j < g.n → (hvs h b (j * (s + 1)) (s + 1)).all okCell = true
def WF (s p : Nat) (k9 : Bool) (h : H) (L : List (RmE s)) (m : Nat) : Prop := ∀ i g, L[i]? = some g → if i < m then MarkedE s p k9 h i g else OkE h g
/-- All lists' blocks are there. -/
def InH {s : Nat} (h : H) (L : List (RmE s)) : Prop := ∀ g ∈ L, ∀ b, g.t = some b → b < h.size
theorem hvs_same {h h' : H} {b : Nat} (e : h'[b]? = h[b]?) (o n : Nat) : hvs h' b o n = hvs h b o n := by
  unfold hvs Go.Ev.hv hc; rw [e]
theorem tag_mem {s : Nat} {L : List (RmE s)} {i b : Nat} {g : RmE s} (hg : L[i]? = some g) (ht : g.t = some b) : 0 < (rtags L).count b := by
  rw [List.count_pos_iff]
  unfold rtags
  rw [List.mem_flatMap]
  exact ⟨g, List.mem_of_getElem? hg, by rw [ht]; simp⟩
theorem tag_one {s : Nat} : ∀ {L : List (RmE s)} {i j b : Nat} {g g' : RmE s}, (rtags L).count b ≤ 1 → L[i]? = some g → L[j]? = some g' → g.t = some b → g'.t = some b → i = j
  | [], i, j, b, g, g', _, hi, _, _, _ => by cases hi
  | x :: L, i, j, b, g, g', hc, hi, hj, hg, hg' => by
    have e : (rtags (x :: L)).count b = (x.t.toList).count b + (rtags L).count b := by unfold rtags; rw [List.flatMap_cons, List.count_append]
    rw [e] at hc
    have hx : ∀ y : RmE s, y.t = some b → (y.t.toList).count b = 1 := fun y hy => by rw [hy]; simp
    cases i with
    | zero =>
      cases j with
      | zero => rfl
      | succ j =>
        cases hi
        rw [List.getElem?_cons_succ] at hj
        have := tag_mem hj hg'
        have := hx _ hg
        omega
    | succ i =>
      cases j with
      | zero =>
        cases hj
        rw [List.getElem?_cons_succ] at hi
        have := tag_mem hi hg
        have := hx _ hg'
        omega
      | succ j =>
        rw [List.getElem?_cons_succ] at hi hj
        rw [tag_one (by omega) hi hj hg hg']
theorem WF.other {s p m b : Nat} {k9 : Bool} {h h' : H} {L : List (RmE s)} (w : WF s p k9 h L m) (hin : InH h L) (hb : (rtags L).count b = 0) (hs : ∀ c, c < h.size → c ≠ b → h'[c]? = h[c]?) : WF s p k9 h' L m := by
  intro i g hg
  have hw := w i g hg
  have same : ∀ c, g.t = some c → h'[c]? = h[c]? := fun c hc => hs c (hin g (List.mem_of_getElem? hg) c hc) (fun q => by
    have := tag_mem hg hc
    rw [q] at this; omega)
  split
  · rename_i q
    rw [if_pos q] at hw
    intro c hc j hj
    rw [hvs_same (same c hc)]; exact hw c hc j hj
  · rename_i q
    rw [if_neg q] at hw
    intro c hc j hj
    rw [hvs_same (same c hc)]; exact hw c hc j hj
/-- One list more is marked. -/
theorem WF.next {s p m b : Nat} {k9 : Bool} {h h' : H} {L : List (RmE s)} {g : RmE s} (w : WF s p k9 h L m) (hin : InH h L) (hg : L[m]? = some g) (ht : g.t = some b) (h1 : (rtags L).count b ≤ 1) (hs : ∀ c, c < h.size → c ≠ b → h'[c]? = h[c]?) (hm : MarkedE s p k9 h' m g) : WF s p k9 h' L (m + 1) := by
  intro i x hx
  by_cases e : i = m
  · subst e
    rw [hg] at hx; cases hx
    rw [if_pos (by omega)]; exact hm
  · have hw := w i x hx
    have same : ∀ c, x.t = some c → h'[c]? = h[c]? := fun c hc => hs c (hin x (List.mem_of_getElem? hx) c hc) (fun q => by
      subst q
      exact e (tag_one h1 hx hg hc ht))
    split
    · rename_i q
      rw [if_pos (by omega)] at hw
      intro c hc j hj
      rw [hvs_same (same c hc)]; exact hw c hc j hj
    · rename_i q
      rw [if_neg (by omega)] at hw
      intro c hc j hj
      rw [hvs_same (same c hc)]; exact hw c hc j hj
theorem WF.none {s p m : Nat} {k9 : Bool} {h : H} {L : List (RmE s)} {g : RmE s} (w : WF s p k9 h L m) (hg : L[m]? = some g) (ht : g.t = none) : WF s p k9 h L (m + 1) := by
  intro i x hx
  by_cases e : i = m
  · subst e
    rw [hg] at hx; cases hx
    rw [if_pos (by omega)]
    intro c hc; rw [ht] at hc; cases hc
  · have hw := w i x hx
    split
    · rename_i q; rw [if_pos (by omega)] at hw; exact hw
    · rename_i q; rw [if_neg (by omega)] at hw; exact hw
end Edict
