import Derived.Test.YtkobamedfbgjbaaKlRo
import Derived.Test.YtkobamedfbgjbaaKrT
import Derived.Test.YtkobamedfbgjbaaKcQ
import Derived.Test.YtkobamedfbgjbaaKpD
import Derived.WalkKit
import Derived.ProofKit
import Derived.OpenShut
import Derived.JoinedCond
import Derived.WideKeyArgs
import Derived.Deep.Slices
section Merged
namespace Go.Ev
open Go Rep
theorem Blk.new {u : U} {h : H} (l : List Value) (t : TypeId) : Blk (ub u h.size 0) (h.push (.cells l.toArray t)) h.size l :=
  ⟨by simp, e_hszpe rfl, e_hfrpe rfl, by simp [ub], fun i v hv => by rw [e_hvpe rfl, List.getD_eq_getElem?_getD, hv]; rfl⟩
theorem Step.own {S : Nat → Prop} {u u1 u2 : U} {h h1 h2 : H} (s : Step S0 u h u1 h1) (t : Step S u1 h1 u2 h2) (hn : ∀ j, S j → h.size ≤ j) : Step S0 u h u2 h2 := s.trans t (fun j hj e => absurd (hn j e) (by omega))
theorem Blk.stepSet {u : U} {h : H} {b i : Nat} {cs : List Value} {v : Value} (B : Blk u h b cs) : Step (fun j => j = b) u h u (hset h b i v) := Step.set u h _ rfl (by rw [B.2.2.2.1]; exact Nat.zero_le _)
theorem Blk.stepSets {u : U} {h : H} {b : Nat} {cs l : List Value} (B : Blk u h b cs) (hl : l.length = cs.length) : Step (fun j => j = b) u h u (hsets h b 0 l) := Step.sets u h _ rfl (by rw [B.2.2.2.1]; exact Nat.le_refl _) (by rw [B.2.1, hl, Nat.zero_add]; exact Nat.le_refl _)
end Go.Ev
namespace Go.Proofs.Ytkobamedfbgjbaa
open Go Go.Ev Edict
def C_bareT (vs : List Value) (h : H) (K : Value → H → Prop) : Prop := ∃ (u : U) (t : Term), vs = [.agg (Term.enc t).toArray] ∧ ∀ u' h', Step S0 u h u' h' → K (.agg (Term.enc (bareT t)).toArray) h'
theorem klBare_ok {vs : List Value} {h : H} {K : Value → H → Prop} {KP : List PanicEntry → H → Prop} (hC : C_bareT vs h K) : HCX Try.prog 43 vs h K KP := by
  obtain ⟨u, t, rfl, hK⟩ := hC
  refine klBare_H (fun _ _ _ _ _ => False) (fun _ _ _ _ _ h => h.elim) _ ?_
  simp (disch := first | omega | (simp only [zz]; try omega; done)) only [↓reduceIte, go_sem, klBare_S, klBare_E, Term.enc]
  exact hK _ _ ((Step.push0 S0 _ _ _ _).trans0 (Step.push0 S0 _ _ _ _))
def C_bareA (vs : List Value) (h : H) (K : Value → H → Prop) : Prop := ∃ (u : U) (a : Atom) (l : List Value), vs = [.agg l.toArray] ∧ Rep.rep u h a l ∧ a.2.1.length ≤ 1048576 ∧ ∀ u' h' l', Step S0 u h u' h' → Rep.rep u' h' (bareA a) l' → K (.agg l'.toArray) h'
def G_klBareA : Ctr := fun f vs h K _ => f = 43 ∧ C_bareT vs h K
theorem G_klBareA_ok : GOk Try.prog G_klBareA := by
  rintro f vs h K KP ⟨rfl, hC⟩; exact klBare_ok hC
theorem klBareA_ok {vs : List Value} {h : H} {K : Value → H → Prop} {KP : List PanicEntry → H → Prop} (hC : C_bareA vs h K) : HCX Try.prog 42 vs h K KP := by
  obtain ⟨u, a, l, rfl, hr, hal, hK⟩ := hC
  rw [rep_atom] at hr
  obtain ⟨av, rfl, hav⟩ := hr
  obtain ⟨aa, ac, rfl, q1, q2⟩ := hav.sl
  have hm := mlen'
  refine klBareAtom_H G_klBareA G_klBareA_ok _ ?_
  have s1 := Step.push0 S0 u h #[str a.1, .slice aa a.2.1.length ac, .int .i64 a.2.2] 45
  have B1 : Blk (ub u h.size 0) (h.push (.cells #[str a.1, .slice aa a.2.1.length ac, .int .i64 a.2.2] 45)) h.size [str a.1, .slice aa a.2.1.length ac, .int .i64 a.2.2] := Blk.new [str a.1, .slice aa a.2.1.length ac, .int .i64 a.2.2] _
  have s2 := Step.push0 S0 (ub u h.size 0) (h.push (.cells #[str a.1, .slice aa a.2.1.length ac, .int .i64 a.2.2] 45)) #[str [], .slice none 0 0, .int .i64 0] 45
  have B2 : Blk (ub (ub u h.size 0) (h.push (.cells #[str a.1, .slice aa a.2.1.length ac, .int .i64 a.2.2] 45)).size 0) ((h.push (.cells #[str a.1, .slice aa a.2.1.length ac, .int .i64 a.2.2] 45)).push (.cells #[str [], .slice none 0 0, .int .i64 0] 45)) (h.size + 1) [str [], .slice none 0 0, .int .i64 0] := (Blk.mk (by simp only [e_psz]; omega) (by simp (disch := first | omega | (simp only [zz]; try omega; done)) only [go_sem]) (by simp (disch := first | omega | (simp only [zz]; try omega; done)) only [go_sem]) (by repeat (first | (refine ub_at ?_; simp only [e_psz]; done) | apply ub_zero)) (by simp (disch := first | omega | (simp only [zz]; try omega; done)) only [go_sem]))
  have B12 := B1.step0 s2
  have st2 := s1.trans0 s2
  simp (disch := first | omega | (simp only [zz]; try omega; done)) only [↓reduceIte, go_sem, klBareAtom_S, klBareAtom_E]
  generalize ub (ub u h.size 0) (h.push (.cells #[str a.1, .slice aa a.2.1.length ac, .int .i64 a.2.2] 45)).size 0 = u2 at B2 B12 st2
  obtain ⟨h2, hh2⟩ : ∃ h2, h2 = (h.push (.cells #[str a.1, .slice aa a.2.1.length ac, .int .i64 a.2.2] 45)).push (.cells #[str [], .slice none 0 0, .int .i64 0] 45) := ⟨_, rfl⟩
  have hs2 : h2.size = h.size + 1 + 1 := by rw [hh2]; simp only [e_psz]
  rw [← hh2] at B2 B12 st2 ⊢
  clear hh2 s1 s2 B1
  have s3 := Step.push0 S0 u2 h2 #[str a.1, .slice none 0 0, .int .i64 0] 45
  have B3 : Blk (ub u2 h2.size 0) (h2.push (.cells #[str a.1, .slice none 0 0, .int .i64 0] 45)) h2.size [str a.1, .slice none 0 0, .int .i64 0] := Blk.new [str a.1, .slice none 0 0, .int .i64 0] _
  rw [hs2] at B3 s3
  have st3 := st2.trans0 s3
  have hav3 := hav.mono st3.ge
  obtain ⟨I, hI⟩ : ∃ I : Nat → Env → H → Prop, I = fun i σ h' => σ 1 = .pointer (some ⟨h.size, 0, none⟩) ∧ σ 2 = .pointer (some ⟨h.size + 1, 0, none⟩) ∧ σ 3 = .pointer (some ⟨h.size + 1 + 1, 0, none⟩) ∧ σ 4 = .int .i64 i ∧ i ≤ a.2.1.length ∧
    ∃ (u' : U) (vA : Value), Step S0 u h u' h' ∧ Own (h.size + 3) u' h' vA ((a.2.1.take i).map bareT) ∧ Blk u' h' h.size [str a.1, .slice aa a.2.1.length ac, .int .i64 a.2.2] ∧ Blk u' h' (h.size + 1) [str [], .slice none 0 0, .int .i64 0] ∧ Blk u' h' (h.size + 1 + 1) [str a.1, vA, .int .i64 0] ∧ IsSl u' h' (.slice aa a.2.1.length ac) a.2.1 := ⟨_, rfl⟩
  refine wpS_loop I (fun i => a.2.1.length - i) 0 (by rw [hI]; exact ⟨by simp [upd], by simp [upd], by simp [upd], by simp [upd], Nat.zero_le _, _, .slice none 0 0, st3, .nil _ _ _, B12.step0 s3, B2.step0 s3, B3, hav3⟩) ?_
  clear B12 B2 B3 st3 st2 s3 hav3 hav
  intro i σ h1 hy
  rw [hI] at hy
  obtain ⟨e1, e2, e3, e4, hi, u1, vA, st, oA, B1, B2, B3, hav⟩ := hy
  have b1 := B1.1
  have b2 := B2.1
  have b3 := B3.1
  by_cases hlt : i < a.2.1.length
  · obtain ⟨t, hs⟩ : ∃ t, a.2.1[i]? = some t := ⟨a.2.1[i], by simp [hlt]⟩
    have htk : (a.2.1.take (i + 1)).map bareT = (a.2.1.take i).map bareT ++ [bareT t] := by rw [List.take_add_one, hs]; simp
    have hlk : ((a.2.1.take i).map bareT).length = i := by rw [List.length_map, List.length_take]; omega
    have havk := hav
    obtain ⟨pb, po, rfl, hpb, hpu, hpz, hpr⟩ := hav.row i t hs
    simp only [rep_term, Term.enc, sz_term, hvs_4, List.cons.injEq, and_true] at hpr hpu hpz
    obtain ⟨l0, l1, l2, l3⟩ := hpr
    simp (disch := first | omega | (simp only [zz]; try omega; done)) only [↓reduceIte, go_sem, klBareAtom_L1, e1, e3, e4, B1.at, B1.2.1, B3.at, B3.2.1, hlt, l0, l1, l2, l3]
    refine effS_call ⟨rfl, u1, t, rfl, fun u2 h2 s2 => ?_⟩
    have C3 := B3.step0 s2
    have c3 := C3.1
    have oC := oA.step0 s2
    refine ⟨by simp (disch := first | omega | (simp only [zz]; try omega; done)) only [↓reduceIte, go_sem, e3, B3.at, C3.at, C3.2.1], ?_⟩
    simp only [Term.enc]
    simp (disch := first | omega | (simp only [zz]; try omega; done)) only [↓reduceIte, go_sem, e3, C3.at, C3.2.1]
    have st2 := st.trans0 s2
    refine effS_app1o rfl oC (x := bareT t) (cs := Term.enc (bareT t)) (by rw [rep_term]) rfl rfl (by omega) (by rw [hlk]; omega) fun a3 n3 c3' u3 h3 o3 s3 b3' => ⟨by simp (disch := first | omega | (simp only [zz]; try omega; done)) only [go_sem], ?_⟩
    have ne : ∀ j, OwnB vA j → h.size + 3 ≤ j := fun j hj => oC.ge hj
    have D1 := (B1.step0 s2).step s3 (fun hj => by have := ne _ hj; omega)
    have D2 := (B2.step0 s2).step s3 (fun hj => by have := ne _ hj; omega)
    have D3 := C3.step s3 (fun hj => by have := ne _ hj; omega)
    have st3 := st2.own s3 (fun j hj => by have := ne _ hj; omega)
    have sw := D3.stepSet (i := 1) (v := .slice a3 n3 c3')
    have E3 := D3.set (i := 1) (v := .slice a3 n3 c3') (by simp)
    have d3 := D3.1
    have x3 := D3.2.1
    have y3 := D3.2.2.1
    simp (disch := first | omega | (simp only [zz]; try omega; done)) only [↓reduceIte, go_sem, e3, e4, x3, y3]
    refine ⟨i + 1, ?_, by omega⟩
    rw [hI]
    refine ⟨by simp [upd, e1], by simp [upd, e2], by simp [upd, e3], by simp [upd], hlt, u3, _, st3.own sw (fun j e => by have e : j = h.size + 1 + 1 := e; omega), ?_, D1.step sw (by omega), D2.step sw (by omega), E3, (havk.mono s2.ge).mono (s3.ge) |>.mono sw.ge⟩
    rw [htk]
    exact o3.step sw (fun j hj e => by have := o3.ge hj; have e : j = h.size + 1 + 1 := e; omega)
  · obtain rfl : i = a.2.1.length := by omega
    rw [List.take_length] at oA
    have hA := oA.isSl
    obtain ⟨xa, xc, rfl, -, -⟩ := oA.sl
    have sw := B2.stepSets (l := [str a.1, .slice xa (a.2.1.map bareT).length xc, .int .i64 0]) rfl
    have E2 := B2.sets (l := [str a.1, .slice xa (a.2.1.map bareT).length xc, .int .i64 0]) rfl
    simp (disch := first | omega | (simp only [zz]; try omega; done)) only [↓reduceIte, go_sem, klBareAtom_L1, e1, e2, e3, e4, B1.at, B1.2.1, B3.at, B3.2.1, B2.2.1, B2.2.2.1, E2.at, E2.2.1]
    exact hK _ _ [_, _, _] (st.own sw (fun j e => by have e : j = h.size + 1 := e; omega)) (by rw [rep_atom]; exact ⟨_, rfl, hA.mono sw.ge⟩)
end Go.Proofs.Ytkobamedfbgjbaa
end Merged
section Merged
namespace Go.Proofs.Ytkobamedfbgjbaa
open Go Go.Ev Go.ChangeShapes Go.WideShapes Go.ChangeAt Go.RowKit

class Txt (α : Type) where
  tx : α → Prop
open Txt
instance : Txt Int := ⟨fun _ => True⟩
instance : Txt Bool := ⟨fun _ => True⟩
instance txtStr : Txt (List UInt8) := ⟨fun s => s.length ≤ reachBytes⟩
instance txtProd {α β : Type} [Txt α] [Txt β] : Txt (α × β) := ⟨fun p => tx p.1 ∧ tx p.2⟩
instance txtList {α : Type} [Txt α] : Txt (List α) := ⟨fun l => ∀ x ∈ l, tx x⟩
def ReadsW (P : Program) (t : TypeId) (α : Type) [Rep α] [Txt α] : Prop := ∀ {H : Type} (enc : TypeId × Value → H) (w : World) {hd : Bool} (fuel : Nat) (cs : List Value) (x : DataW H × List MemPlace),
  DataW.trod enc P w 0 (fun _ => true) hd fuel t cs = some x → ∃ a : α, Rep.rep (hsz w.heap) w.heap a cs ∧ Rep.wf a ∧ Rep.bulk a ≤ Rows.uptoBulk x.1 ∧ ((∀ n ∈ x.1.weights P t, n ≤ reachBytes) → tx a)
variable {P : Program} {t e : TypeId}
theorem reads_intW (ht : P.underlying t = some (.int .i64)) : ReadsW P t Int := by
  intro H enc w hd fuel cs x h
  obtain ⟨n, rfl, rfl, hw⟩ := DataW.trod_int ht h
  refine ⟨n, rfl, ?_, Nat.le_refl _, fun _ => trivial⟩
  have e1 : IntKind.i64.min = -9223372036854775808 := by decide
  have e2 : IntKind.i64.max = 9223372036854775807 := by decide
  simp only [Lit.wf, Bool.and_eq_true, decide_eq_true_eq, e1, e2] at hw
  exact hw
theorem reads_strW (ht : P.underlying t = some .string) : ReadsW P t (List UInt8) := by
  intro H enc w hd fuel cs x h
  obtain ⟨s, rfl, rfl, hs⟩ := DataW.trod_string ht h
  refine ⟨s.data.toList, by rw [rep_str, str_of], ?_, ?_, fun hz => hz _ (by simp [DataW.weights])⟩
  · show s.data.toList.length ≤ maxLen
    rw [Array.length_toList]; exact hs
  · show s.data.toList.length + 1 ≤ Rows.uptoBulk (.lit (.string s.data.toList))
    simp [Rows.uptoBulk]
def ReadsFW (P : Program) (fs : List Field) (o : Nat) (α : Type) [Rep α] [Txt α] : Prop := ∀ {H : Type} (enc : TypeId × Value → H) (w : World) {hd : Bool} (n : Nat) (cs : List Value) (xs : List (DataW H × List MemPlace)), cs.length = o + Rep.sz α →
  xs.length = fs.length → (∀ (i : Nat) (f : Field), fs[i]? = some f → DataW.trod enc P w 0 (fun _ => true) hd n f.type ((cs.drop f.offset).take (P.cellsOf f.type)) = xs[i]?) →
  ∃ a : α, Rep.rep (hsz w.heap) w.heap a (cs.drop o) ∧ Rep.wf a ∧ Rep.bulk a ≤ Rows.uptoBulkAll (xs.map (·.1)) ∧ ((∀ n ∈ DataW.weightsEach P (fs.map (·.type)) (xs.map (·.1)), n ≤ reachBytes) → tx a)
theorem readsF_oneW {α : Type} [Rep α] [Txt α] {f : Field} {o : Nat} (r : ReadsW P f.type α) (ho : f.offset = o) (hc : P.cellsOf f.type = Rep.sz α) : ReadsFW P [f] o α := by
  intro H enc w hd n cs xs hl hx hf
  match xs, hx with
  | [y], _ =>
    have h0 := hf 0 f rfl
    simp only [List.getElem?_cons_zero] at h0
    obtain ⟨a, h1, h2, h3, h4⟩ := r enc w n _ y h0
    rw [ho, hc, List.take_of_length_le (by rw [List.length_drop]; omega)] at h1
    exact ⟨a, h1, h2, by simp only [List.map_cons, List.map_nil, Rows.uptoBulkAll]; omega, fun hz => h4 fun n hn => hz n (by simp only [List.map_cons, List.map_nil, DataW.weightsEach, List.append_nil]; exact hn)⟩
theorem readsF_consW {α β : Type} [Rep α] [Rep β] [Txt α] [Txt β] {f : Field} {fs : List Field} {o : Nat} (r : ReadsW P f.type α) (ho : f.offset = o) (hc : P.cellsOf f.type = Rep.sz α) (rs : ReadsFW P fs (o + Rep.sz α) β) : ReadsFW P (f :: fs) o (α × β) := by
  intro H enc w hd n cs xs hl hx hf
  match xs, hx with
  | y :: ys, hx =>
    have h0 := hf 0 f rfl
    simp only [List.getElem?_cons_zero] at h0
    obtain ⟨a, h1, h2, h3, h4⟩ := r enc w n _ y h0
    rw [ho, hc] at h1
    rw [sz_prod] at hl
    obtain ⟨b, k1, k2, k3, k4⟩ := rs enc w n cs ys (by omega) (by simpa using hx) (fun i g hg => by simpa using hf (i + 1) g (by simpa using hg))
    refine ⟨(a, b), ?_, ⟨h2, k2⟩, ?_, fun hz => ⟨h4 fun n hn => hz n ?_, k4 fun n hn => hz n ?_⟩⟩
    · rw [rep_prod]
      exact ⟨_, _, by rw [← List.drop_drop, List.take_append_drop], h1, k1⟩
    · rw [bulk_prod]; simp only [List.map_cons, Rows.uptoBulkAll]; omega
    · simp only [List.map_cons, DataW.weightsEach]; exact List.mem_append.2 (.inl hn)
    · simp only [List.map_cons, DataW.weightsEach]; exact List.mem_append.2 (.inr hn)
theorem reads_structW {α : Type} [Rep α] [Txt α] {fs : Array Field} (ht : P.underlying t = some (.struct fs)) (hc : P.cellsOf t = Rep.sz α) (r : ReadsFW P fs.toList 0 α) : ReadsW P t α := by
  intro H enc w hd fuel cs x h
  obtain ⟨xs, n, rfl, rfl, hl, hx, hf⟩ := DataW.trod_struct ht h
  obtain ⟨a, h1, h2, h3, h4⟩ := r enc w n cs xs (by omega) (by simpa using hx) (fun i f hi => hf i f (by simpa using hi))
  refine ⟨a, by simpa using h1, h2, ?_, fun hz => h4 fun n hn => hz n ?_⟩
  · simp only [Rows.uptoBulk]; omega
  · simp only [DataW.weights, ht]; exact hn
theorem weightsAll_mem {H : Type} {D : Nat → DataW H} {e : TypeId} {n i : Nat} : ∀ {k len : Nat}, k ≤ i → i < k + len → n ∈ (D i).weights P e → n ∈ DataW.weightsAll P e ((List.range' k len).map D)
  | k, 0, h1, h2, _ => by omega
  | k, len + 1, h1, h2, hn => by
    rw [List.range'_succ, List.map_cons]
    simp only [DataW.weightsAll]
    by_cases e : i = k
    · subst e; exact List.mem_append.2 (.inl hn)
    · exact List.mem_append.2 (.inr (weightsAll_mem (by omega) (by omega) hn))
theorem reads_sliceW {α : Type} [Rep α] [Txt α] (ht : P.underlying t = some (.slice e)) (hc : P.cellsOf e = Rep.sz α) (r : ReadsW P e α) : ReadsW P t (List α) := by
  intro H enc w hd fuel cs x h
  rcases Go.Deep.open_slice ht h with ⟨rfl, rfl⟩ | ⟨a, len, cap, m, n, D, Pl, rfl, -, hlc, hcm, hm, rfl, hel⟩
  · exact ⟨[], ⟨_, rfl, .nil _ _⟩, ⟨Nat.zero_le _, fun x hx => by cases hx⟩, Nat.le_refl _, fun _ x hx => by cases hx⟩
  · simp only [if_true] at hm
    subst hm
    have hex : ∀ i, i < len → ∃ x : α, ∃ cs', w.cells? 0 (a.add (i * P.cellsOf e)) (P.cellsOf e) = some cs' ∧ Rep.rep (hsz w.heap) w.heap x cs' ∧ Rep.wf x ∧ Rep.bulk x ≤ Rows.uptoBulk (D i) ∧ ((∀ n ∈ (D i).weights P e, n ≤ reachBytes) → tx x) := fun i hi => by
      obtain ⟨cs', h1, h2⟩ := hel i (by omega)
      obtain ⟨x, h3, h4, h5, h6⟩ := r enc w n cs' _ h2
      exact ⟨x, cs', h1, h3, h4, h5, h6⟩
    -- the list
    have hlist : ∀ k, k ≤ len → ∃ l : List α, l.length = k ∧ ∀ i x, l[i]? = some x → ∃ cs', w.cells? 0 (a.add (i * P.cellsOf e)) (P.cellsOf e) = some cs' ∧ Rep.rep (hsz w.heap) w.heap x cs' ∧ Rep.wf x ∧ Rep.bulk x ≤ Rows.uptoBulk (D i) ∧ ((∀ n ∈ (D i).weights P e, n ≤ reachBytes) → tx x) := by
      intro k
      induction k with
      | zero => exact fun _ => ⟨[], rfl, fun i x hx => by simp at hx⟩
      | succ k ih =>
        intro hk
        obtain ⟨l, h1, h2⟩ := ih (by omega)
        obtain ⟨x, hx⟩ := hex k (by omega)
        refine ⟨l ++ [x], by simp [h1], fun i y hy => ?_⟩
        by_cases hi : i < l.length
        · rw [List.getElem?_append_left hi] at hy; exact h2 i y hy
        · rw [List.getElem?_append_right (by omega)] at hy
          have : i - l.length = 0 := by
            have := (List.getElem?_eq_some_iff.1 hy).1
            simp at this; omega
          rw [this] at hy
          simp only [List.getElem?_cons_zero, Option.some.injEq] at hy
          subst hy
          have : i = k := by omega
          subst this; exact hx
    obtain ⟨l, hl, hall⟩ := hlist len (Nat.le_refl _)
    have szp := Rep.szp (α := α)
    refine ⟨l, ⟨_, rfl, some a, len, _, rfl, hl.symm, hlc, hcm, (fun h => by cases h), fun hne => ?_⟩, ⟨by omega, fun x hx => ?_⟩, ?_, fun hz x hx => ?_⟩
    · -- the block
      have hcell : ∀ i x, l[i]? = some x → ∀ j, j < Rep.sz α → ∃ v, w.cell? (a.add (i * Rep.sz α + j)) = some v ∧ ∀ cs', w.cells? 0 (a.add (i * P.cellsOf e)) (P.cellsOf e) = some cs' → cs'[j]? = some v := fun i x hx j hj => by
        obtain ⟨cs', h1, h2, -⟩ := hall i x hx
        obtain ⟨-, h3, h4⟩ := World.cells?_some h1
        rw [hc] at h3 h4
        have h5 := h4 j hj
        rw [Go.Deep.add_add] at h5
        refine ⟨cs'[j]'(by omega), by rw [h5]; simp, fun cs2 h6 => ?_⟩
        rw [h1] at h6
        cases h6
        simp
      have h0l : 0 < l.length := List.length_pos_iff.2 hne
      obtain ⟨v0, hv0, -⟩ := hcell 0 l[0] (by simp) 0 szp
      obtain ⟨b, o, sp⟩ := a
      have hsp : sp = none := by
        simp only [Nat.zero_mul, Nat.add_zero] at hv0
        unfold Addr.add at hv0
        simp only [if_true] at hv0
        unfold World.cell? at hv0
        cases sp with
        | none => rfl
        | some s => cases hh : w.heap[b]? <;> simp [hh] at hv0; rename_i ob; cases ob <;> simp at hv0
      subst hsp
      have hin : ∀ i x, l[i]? = some x → ∀ j, j < Rep.sz α → o + (i * Rep.sz α + j) < hsz w.heap b := fun i x hx j hj => by
        obtain ⟨v, hv, -⟩ := hcell i x hx j hj
        rw [Addr.add_lit, cell_hc] at hv
        unfold Go.Ev.hc at hv
        unfold hsz
        cases hh : w.heap[b]? with
        | none => simp [hh] at hv
        | some ob =>
          cases ob <;> simp only [hh] at hv ⊢
          all_goals first | exact (Array.getElem?_eq_some_iff.1 hv).1 | cases hv
      have hend : o + l.length * Rep.sz α ≤ hsz w.heap b := by
        have := hin (l.length - 1) l[l.length - 1] (by simp) (Rep.sz α - 1) (by omega)
        have e1 : (l.length - 1) * Rep.sz α + Rep.sz α = l.length * Rep.sz α := by
          rw [← Nat.succ_mul]; congr 1; omega
        omega
      have hbl : b < w.heap.size := by
        have := hin 0 l[0] (by simp) 0 szp
        unfold hsz at this
        cases hh : w.heap[b]? with
        | none => simp [hh] at this
        | some ob => exact (Array.getElem?_eq_some_iff.1 hh).1
      refine ⟨b, o, rfl, hbl, hend, hend, fun i x hx => ?_⟩
      obtain ⟨cs', h1, h2, -⟩ := hall i x hx
      have hcs : hvs w.heap b (o + i * Rep.sz α) (Rep.sz α) = cs' := by
        refine hvs_rows (fun j hj => ?_) (Rep.len h2)
        obtain ⟨v, hv, hv2⟩ := hcell i x hx j hj
        have := hv2 cs' h1
        rw [List.getD_eq_getElem?_getD, this, Option.getD_some]
        rw [Addr.add_lit, cell_hc] at hv
        unfold Go.Ev.hv
        rw [Nat.add_assoc, hv]; rfl
      rw [hcs]; exact h2
    · obtain ⟨i, hi, rfl⟩ := List.mem_iff_getElem.1 hx
      obtain ⟨cs', -, -, h3, -⟩ := hall i l[i] (by simp [hi])
      exact h3
    · have := bulk_map D l 0 (fun i x hx => by
        obtain ⟨_, -, -, -, h4, -⟩ := hall i x hx
        rw [Nat.zero_add]; exact h4)
      rw [hl, ← List.range_eq_range'] at this
      show bulkL l ≤ _
      simp only [Rows.uptoBulk]
      omega
    · obtain ⟨i, hi, rfl⟩ := List.mem_iff_getElem.1 hx
      obtain ⟨cs', -, -, -, -, h5⟩ := hall i l[i] (by simp [hi])
      refine h5 fun n hn => hz n ?_
      simp only [DataW.weights, ht]
      refine List.mem_cons_of_mem _ (List.mem_append.2 (.inl ?_))
      rw [List.range_eq_range']
      exact weightsAll_mem (Nat.zero_le _) (by omega) hn
end Go.Proofs.Ytkobamedfbgjbaa
end Merged
