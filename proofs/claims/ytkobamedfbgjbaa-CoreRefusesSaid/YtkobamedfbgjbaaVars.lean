import Derived.Test.YtkobamedfbgjbaaRead
import Derived.WalkKit
import Derived.ProofKit
import Derived.OpenShut
import Derived.JoinedCond
import Derived.WideKeyArgs
import Derived.Deep.Slices
import Derived.Test.YtkobamedfbgjbaaClauseS
import Derived.Test.YtkobamedfbgjbaaEvE
section Merged
namespace Go.Proofs.Ytkobamedfbgjbaa
open Go Go.Ev Go.ChangeShapes Go.WideShapes Go.ChangeAt Go.RowKit

/-- All texts within the reach. -/
class Txt (α : Type) where
  tx : α → Prop
open Txt
instance : Txt Int := ⟨fun _ => True⟩
instance : Txt Bool := ⟨fun _ => True⟩
instance txtStr : Txt (List UInt8) := ⟨fun s => s.length ≤ reachBytes⟩
instance txtProd {α β : Type} [Txt α] [Txt β] : Txt (α × β) := ⟨fun p => tx p.1 ∧ tx p.2⟩
instance txtList {α : Type} [Txt α] : Txt (List α) := ⟨fun l => ∀ x ∈ l, tx x⟩
def ReadsW (P : Program) (t : TypeId) (α : Type) [Rep α] [Txt α] : Prop := ∀ {H : Type} (enc : TypeId × Value → H) (w : World) {hd : Bool} (fuel : Nat) (cs : List Value) (x : DataW H × List MemPlace),
  DataW.trod enc P w 0 (fun _ => true) hd fuel t cs = some x → ∃ a : α, Rep.rep (hsz w.heap) w.heap a cs ∧ Rep.wf a ∧ Rep.bulk a ≤ Rows.uptoBulk x.1 ∧ ((∀ n ∈ x.1.weights P t, n ≤ reachBytes) → tx a)
variable {P : Program} {t e : TypeId}
theorem reads_intW (ht : P.underlying t = some (.int .i64)) : ReadsW P t Int := by
  intro H enc w hd fuel cs x h
  obtain ⟨n, rfl, rfl, hw⟩ := DataW.trod_int ht h
  refine ⟨n, rfl, ?_, Nat.le_refl _, fun _ => trivial⟩
  have e1 : IntKind.i64.min = -9223372036854775808 := by decide
  have e2 : IntKind.i64.max = 9223372036854775807 := by decide
  simp only [Lit.wf, Bool.and_eq_true, decide_eq_true_eq, e1, e2] at hw
  exact hw
theorem reads_boolW (ht : P.underlying t = some .bool) : ReadsW P t Bool := by
  intro H enc w hd fuel cs x h
  obtain ⟨n, rfl, rfl⟩ := DataW.trod_bool ht h
  exact ⟨n, rfl, trivial, Nat.le_refl _, fun _ => trivial⟩
theorem reads_strW (ht : P.underlying t = some .string) : ReadsW P t (List UInt8) := by
  intro H enc w hd fuel cs x h
  obtain ⟨s, rfl, rfl, hs⟩ := DataW.trod_string ht h
  refine ⟨s.data.toList, by rw [rep_str, str_of], ?_, ?_, fun hz => hz _ (by simp [DataW.weights])⟩
  · show s.data.toList.length ≤ maxLen
    rw [Array.length_toList]; exact hs
  · show s.data.toList.length + 1 ≤ Rows.uptoBulk (.lit (.string s.data.toList))
    simp [Rows.uptoBulk]
/-- Fields from place o on. -/
def ReadsFW (P : Program) (fs : List Field) (o : Nat) (α : Type) [Rep α] [Txt α] : Prop := ∀ {H : Type} (enc : TypeId × Value → H) (w : World) {hd : Bool} (n : Nat) (cs : List Value) (xs : List (DataW H × List MemPlace)), cs.length = o + Rep.sz α →
  xs.length = fs.length → (∀ (i : Nat) (f : Field), fs[i]? = some f → DataW.trod enc P w 0 (fun _ => true) hd n f.type ((cs.drop f.offset).take (P.cellsOf f.type)) = xs[i]?) →
  ∃ a : α, Rep.rep (hsz w.heap) w.heap a (cs.drop o) ∧ Rep.wf a ∧ Rep.bulk a ≤ Rows.uptoBulkAll (xs.map (·.1)) ∧ ((∀ n ∈ DataW.weightsEach P (fs.map (·.type)) (xs.map (·.1)), n ≤ reachBytes) → tx a)
theorem readsF_oneW {α : Type} [Rep α] [Txt α] {f : Field} {o : Nat} (r : ReadsW P f.type α) (ho : f.offset = o) (hc : P.cellsOf f.type = Rep.sz α) : ReadsFW P [f] o α := by
  intro H enc w hd n cs xs hl hx hf
  match xs, hx with
  | [y], _ =>
    have h0 := hf 0 f rfl
    simp only [List.getElem?_cons_zero] at h0
    obtain ⟨a, h1, h2, h3, h4⟩ := r enc w n _ y h0
    rw [ho, hc, List.take_of_length_le (by rw [List.length_drop]; omega)] at h1
    exact ⟨a, h1, h2, by simp only [List.map_cons, List.map_nil, Rows.uptoBulkAll]; omega, fun hz => h4 fun n hn => hz n (by simp only [List.map_cons, List.map_nil, DataW.weightsEach, List.append_nil]; exact hn)⟩
theorem readsF_consW {α β : Type} [Rep α] [Rep β] [Txt α] [Txt β] {f : Field} {fs : List Field} {o : Nat} (r : ReadsW P f.type α) (ho : f.offset = o) (hc : P.cellsOf f.type = Rep.sz α) (rs : ReadsFW P fs (o + Rep.sz α) β) : ReadsFW P (f :: fs) o (α × β) := by
  intro H enc w hd n cs xs hl hx hf
  match xs, hx with
  | y :: ys, hx =>
    have h0 := hf 0 f rfl
    simp only [List.getElem?_cons_zero] at h0
    obtain ⟨a, h1, h2, h3, h4⟩ := r enc w n _ y h0
    rw [ho, hc] at h1
    rw [sz_prod] at hl
    obtain ⟨b, k1, k2, k3, k4⟩ := rs enc w n cs ys (by omega) (by simpa using hx) (fun i g hg => by simpa using hf (i + 1) g (by simpa using hg))
    refine ⟨(a, b), ?_, ⟨h2, k2⟩, ?_, fun hz => ⟨h4 fun n hn => hz n ?_, k4 fun n hn => hz n ?_⟩⟩
    · rw [rep_prod]
      exact ⟨_, _, by rw [← List.drop_drop, List.take_append_drop], h1, k1⟩
    · rw [bulk_prod]; simp only [List.map_cons, Rows.uptoBulkAll]; omega
    · simp only [List.map_cons, DataW.weightsEach]; exact List.mem_append.2 (.inl hn)
    · simp only [List.map_cons, DataW.weightsEach]; exact List.mem_append.2 (.inr hn)
theorem reads_structW {α : Type} [Rep α] [Txt α] {fs : Array Field} (ht : P.underlying t = some (.struct fs)) (hc : P.cellsOf t = Rep.sz α) (r : ReadsFW P fs.toList 0 α) : ReadsW P t α := by
  intro H enc w hd fuel cs x h
  obtain ⟨xs, n, rfl, rfl, hl, hx, hf⟩ := DataW.trod_struct ht h
  obtain ⟨a, h1, h2, h3, h4⟩ := r enc w n cs xs (by omega) (by simpa using hx) (fun i f hi => hf i f (by simpa using hi))
  refine ⟨a, by simpa using h1, h2, ?_, fun hz => h4 fun n hn => hz n ?_⟩
  · simp only [Rows.uptoBulk]; omega
  · simp only [DataW.weights, ht]; exact hn
theorem weightsAll_mem {H : Type} {D : Nat → DataW H} {e : TypeId} {n i : Nat} : ∀ {k len : Nat}, k ≤ i → i < k + len → n ∈ (D i).weights P e → n ∈ DataW.weightsAll P e ((List.range' k len).map D)
  | k, 0, h1, h2, _ => by omega
  | k, len + 1, h1, h2, hn => by
    rw [List.range'_succ, List.map_cons]
    simp only [DataW.weightsAll]
    by_cases e : i = k
    · subst e; exact List.mem_append.2 (.inl hn)
    · exact List.mem_append.2 (.inr (weightsAll_mem (by omega) (by omega) hn))
theorem reads_sliceW {α : Type} [Rep α] [Txt α] (ht : P.underlying t = some (.slice e)) (hc : P.cellsOf e = Rep.sz α) (r : ReadsW P e α) : ReadsW P t (List α) := by
  intro H enc w hd fuel cs x h
  rcases Go.Deep.open_slice ht h with ⟨rfl, rfl⟩ | ⟨a, len, cap, m, n, D, Pl, rfl, -, hlc, hcm, hm, rfl, hel⟩
  · exact ⟨[], ⟨_, rfl, .nil _ _⟩, ⟨Nat.zero_le _, fun x hx => by cases hx⟩, Nat.le_refl _, fun _ x hx => by cases hx⟩
  · simp only [if_true] at hm
    subst hm
    have hex : ∀ i, i < len → ∃ x : α, ∃ cs', w.cells? 0 (a.add (i * P.cellsOf e)) (P.cellsOf e) = some cs' ∧ Rep.rep (hsz w.heap) w.heap x cs' ∧ Rep.wf x ∧ Rep.bulk x ≤ Rows.uptoBulk (D i) ∧ ((∀ n ∈ (D i).weights P e, n ≤ reachBytes) → tx x) := fun i hi => by
      obtain ⟨cs', h1, h2⟩ := hel i (by omega)
      obtain ⟨x, h3, h4, h5, h6⟩ := r enc w n cs' _ h2
      exact ⟨x, cs', h1, h3, h4, h5, h6⟩
    -- the list
    have hlist : ∀ k, k ≤ len → ∃ l : List α, l.length = k ∧ ∀ i x, l[i]? = some x → ∃ cs', w.cells? 0 (a.add (i * P.cellsOf e)) (P.cellsOf e) = some cs' ∧ Rep.rep (hsz w.heap) w.heap x cs' ∧ Rep.wf x ∧ Rep.bulk x ≤ Rows.uptoBulk (D i) ∧ ((∀ n ∈ (D i).weights P e, n ≤ reachBytes) → tx x) := by
      intro k
      induction k with
      | zero => exact fun _ => ⟨[], rfl, fun i x hx => by simp at hx⟩
      | succ k ih =>
        intro hk
        obtain ⟨l, h1, h2⟩ := ih (by omega)
        obtain ⟨x, hx⟩ := hex k (by omega)
        refine ⟨l ++ [x], by simp [h1], fun i y hy => ?_⟩
        by_cases hi : i < l.length
        · rw [List.getElem?_append_left hi] at hy; exact h2 i y hy
        · rw [List.getElem?_append_right (by omega)] at hy
          have : i - l.length = 0 := by
            have := (List.getElem?_eq_some_iff.1 hy).1
            simp at this; omega
          rw [this] at hy
          simp only [List.getElem?_cons_zero, Option.some.injEq] at hy
          subst hy
          have : i = k := by omega
          subst this; exact hx
    obtain ⟨l, hl, hall⟩ := hlist len (Nat.le_refl _)
    have szp := Rep.szp (α := α)
    refine ⟨l, ⟨_, rfl, some a, len, _, rfl, hl.symm, hlc, hcm, (fun h => by cases h), fun hne => ?_⟩, ⟨by omega, fun x hx => ?_⟩, ?_, fun hz x hx => ?_⟩
    · -- the block
      have hcell : ∀ i x, l[i]? = some x → ∀ j, j < Rep.sz α → ∃ v, w.cell? (a.add (i * Rep.sz α + j)) = some v ∧ ∀ cs', w.cells? 0 (a.add (i * P.cellsOf e)) (P.cellsOf e) = some cs' → cs'[j]? = some v := fun i x hx j hj => by
        obtain ⟨cs', h1, h2, -⟩ := hall i x hx
        obtain ⟨-, h3, h4⟩ := World.cells?_some h1
        rw [hc] at h3 h4
        have h5 := h4 j hj
        rw [Go.Deep.add_add] at h5
        refine ⟨cs'[j]'(by omega), by rw [h5]; simp, fun cs2 h6 => ?_⟩
        rw [h1] at h6
        cases h6
        simp
      have h0l : 0 < l.length := List.length_pos_iff.2 hne
      obtain ⟨v0, hv0, -⟩ := hcell 0 l[0] (by simp) 0 szp
      obtain ⟨b, o, sp⟩ := a
      have hsp : sp = none := by
        simp only [Nat.zero_mul, Nat.add_zero] at hv0
        unfold Addr.add at hv0
        simp only [if_true] at hv0
        unfold World.cell? at hv0
        cases sp with
        | none => rfl
        | some s => cases hh : w.heap[b]? <;> simp [hh] at hv0; rename_i ob; cases ob <;> simp at hv0
      subst hsp
      have hin : ∀ i x, l[i]? = some x → ∀ j, j < Rep.sz α → o + (i * Rep.sz α + j) < hsz w.heap b := fun i x hx j hj => by
        obtain ⟨v, hv, -⟩ := hcell i x hx j hj
        rw [Addr.add_lit, cell_hc] at hv
        unfold Go.Ev.hc at hv
        unfold hsz
        cases hh : w.heap[b]? with
        | none => simp [hh] at hv
        | some ob =>
          cases ob <;> simp only [hh] at hv ⊢
          all_goals first | exact (Array.getElem?_eq_some_iff.1 hv).1 | cases hv
      have hend : o + l.length * Rep.sz α ≤ hsz w.heap b := by
        have := hin (l.length - 1) l[l.length - 1] (by simp) (Rep.sz α - 1) (by omega)
        have e1 : (l.length - 1) * Rep.sz α + Rep.sz α = l.length * Rep.sz α := by
          rw [← Nat.succ_mul]; congr 1; omega
        omega
      have hbl : b < w.heap.size := by
        have := hin 0 l[0] (by simp) 0 szp
        unfold hsz at this
        cases hh : w.heap[b]? with
        | none => simp [hh] at this
        | some ob => exact (Array.getElem?_eq_some_iff.1 hh).1
      refine ⟨b, o, rfl, hbl, hend, hend, fun i x hx => ?_⟩
      obtain ⟨cs', h1, h2, -⟩ := hall i x hx
      have hcs : hvs w.heap b (o + i * Rep.sz α) (Rep.sz α) = cs' := by
        refine hvs_rows (fun j hj => ?_) (Rep.len h2)
        obtain ⟨v, hv, hv2⟩ := hcell i x hx j hj
        have := hv2 cs' h1
        rw [List.getD_eq_getElem?_getD, this, Option.getD_some]
        rw [Addr.add_lit, cell_hc] at hv
        unfold Go.Ev.hv
        rw [Nat.add_assoc, hv]; rfl
      rw [hcs]; exact h2
    · obtain ⟨i, hi, rfl⟩ := List.mem_iff_getElem.1 hx
      obtain ⟨cs', -, -, h3, -⟩ := hall i l[i] (by simp [hi])
      exact h3
    · have := bulk_map D l 0 (fun i x hx => by
        obtain ⟨_, -, -, -, h4, -⟩ := hall i x hx
        rw [Nat.zero_add]; exact h4)
      rw [hl, ← List.range_eq_range'] at this
      show bulkL l ≤ _
      simp only [Rows.uptoBulk]
      omega
    · obtain ⟨i, hi, rfl⟩ := List.mem_iff_getElem.1 hx
      obtain ⟨cs', -, -, -, -, h5⟩ := hall i l[i] (by simp [hi])
      refine h5 fun n hn => hz n ?_
      simp only [DataW.weights, ht]
      refine List.mem_cons_of_mem _ (List.mem_append.2 (.inl ?_))
      rw [List.range_eq_range']
      exact weightsAll_mem (Nat.zero_le _) (by omega) hn
end Go.Proofs.Ytkobamedfbgjbaa
end Merged
section Merged
namespace Edict
abbrev Strs := List (List UInt8)
def varT (vs : Strs) (t : Term) : Strs := if t.1 = 4 ∧ (t.2.2.1 = [95] ∨ t.2.2.1 ∉ vs) then vs ++ [t.2.2.1] else vs
def varL (vs : Strs) (l : Literal) : Strs := if l.1 = 1 then l.2.1.2.1.foldl varT vs else vs
def varsF (ls : List Literal) : Strs := ls.foldl varL []
theorem fold_snoc {α β : Type} {f : β → α → β} {b : β} {l : List α} {i : Nat} {x : α} (h : l[i]? = some x) : (l.take (i + 1)).foldl f b = f ((l.take i).foldl f b) x := by
  rw [List.take_add_one, h, Option.toList_some, List.foldl_append]; rfl
def argN (l : Literal) : Nat := l.2.1.2.1.length
def tot (ls : List Literal) : Nat := (ls.map argN).sum
theorem varT_len (vs : Strs) (t : Term) : (varT vs t).length ≤ vs.length + 1 := by unfold varT; split <;> simp
theorem varsT_len : ∀ (l : List Term) (vs : Strs), (l.foldl varT vs).length ≤ vs.length + l.length
  | [], vs => by simp
  | t :: l, vs => by have := varsT_len l (varT vs t); have := varT_len vs t; simp only [List.foldl_cons, List.length_cons]; omega
theorem varsL_len : ∀ (l : List Literal) (vs : Strs), (l.foldl varL vs).length ≤ vs.length + tot l
  | [], vs => by simp [tot]
  | x :: l, vs => by
    have h1 := varsL_len l (varL vs x)
    have h2 : (varL vs x).length ≤ vs.length + argN x := by
      unfold varL argN; split
      · exact varsT_len _ _
      · omega
    simp only [List.foldl_cons, tot, List.map_cons, List.sum_cons] at h1 ⊢
    omega
theorem tot_take {l : List Literal} {i : Nat} {x : Literal} (h : l[i]? = some x) : tot (l.take i) + argN x ≤ tot l := by
  have e : tot l = tot (l.take i) + tot (l.drop i) := by unfold tot; rw [← List.sum_append_nat, ← List.map_append, List.take_append_drop]
  obtain ⟨hi, rfl⟩ := List.getElem?_eq_some_iff.1 h
  rw [e, List.drop_eq_getElem_cons hi]
  simp only [tot, List.map_cons, List.sum_cons]
  omega
open Go.Ev in
theorem tot_bulk : ∀ l : List Literal, tot l ≤ bulkL l
  | [] => Nat.zero_le _
  | x :: l => by
    have h1 := tot_bulk l
    have h2 := bulkL_pos x.2.1.2.1
    have h3 : Rep.bulk x = 1 + ((x.2.1.1.length + 1 + (bulkL x.2.1.2.1 + 1)) + (1 + (Rep.bulk x.2.2.2.1 + (Rep.bulk x.2.2.2.2.1 + 1)))) := rfl
    simp only [tot, List.map_cons, List.sum_cons, bulkL, argN] at h1 ⊢
    omega
theorem inner_len {l : List Literal} {i j : Nat} {x : Literal} (h : l[i]? = some x) : ((x.2.1.2.1.take j).foldl varT (varsF (l.take i))).length ≤ Go.Ev.bulkL l := by
  have h1 := varsT_len (x.2.1.2.1.take j) (varsF (l.take i))
  have h2 := varsL_len (l.take i) []
  have h3 := tot_take h
  have h4 := tot_bulk l
  have h5 : (x.2.1.2.1.take j).length ≤ argN x := by rw [List.length_take]; exact Nat.min_le_right _ _
  unfold varsF at h1 ⊢
  simp only [List.length_nil] at h2
  omega
end Edict
namespace Go.Proofs.Ytkobamedfbgjbaa
open Go Go.Ev Edict
theorem mlen' : maxLen = 9223372036854775807 := rfl
def C_among (vs : List Value) (h : H) (K : Value → H → Prop) : Prop := ∃ (u : U) (v : Value) (l : Strs) (s : List UInt8), vs = [v, str s] ∧ IsSl u h v l ∧ ∀ i : Int, (i < 0 ↔ s ∉ l) → K (.int .i64 i) h
def C_vars (vs : List Value) (h : H) (K : Value → H → Prop) : Prop := ∃ (u : U) (v : Value) (ls : List Literal), vs = [v] ∧ IsSl u h v ls ∧ bulkL ls ≤ 1048576 ∧ ∀ u' h' w, Step S0 u h u' h' → IsSl u' h' w (varsF ls) → K w h'
end Go.Proofs.Ytkobamedfbgjbaa
end Merged
