/- Rules, patterns, slots back into names: core.Back, core.Fact, and the reference's. -/
import Derived.Test.YtjkppoffffjkmaaBackS
import Derived.Test.YtjkppoffffjkmaaEvC
namespace Edict
abbrev Term := Int × Int × List UInt8 × Int
abbrev Const := Int × Int × List UInt8
abbrev Slot := Bool × Int
abbrev Atom := List UInt8 × List Term × Int
abbrev Literal := Int × Atom × Int × Term × Term × Int
abbrev Clause := Atom × List Literal
abbrev Pattern := Int × List Slot
abbrev Test := Int × Slot × Slot
abbrev Rule := Pattern × List Pattern × List Test × List Pattern × List (List UInt8) × Int
abbrev Pred := List UInt8 × Int
abbrev Row := Int × List Int
abbrev Core := List Pred × List Const × List Rule × List Row
abbrev Fact := List UInt8 × List Const
/-- The element at a place that may be no place. -/
def at? {α : Type} (l : List α) (i : Int) : Option α := if 0 ≤ i then l[i.toNat]? else none
theorem at_none {α : Type} {l : List α} {i : Int} (h : i < 0 ∨ (l.length : Int) ≤ i) : at? l i = none := by
  unfold at?; split
  · rw [List.getElem?_eq_none]; omega
  · rfl
theorem at_some {α : Type} {l : List α} {i : Int} (h0 : 0 ≤ i) (h1 : i < l.length) : ∃ x, at? l i = some x ∧ l[i.toNat]? = some x := by
  unfold at?; rw [if_pos h0]
  exact ⟨l[i.toNat]'(by omega), by simp, by simp⟩
def termB (cs : List Const) (vars : List (List UInt8)) (s : Slot) : Option Term :=
  if s.1 then (at? vars s.2).map fun v => (4, 0, v, 0) else (at? cs s.2).map fun k => (k.1, k.2.1, k.2.2, 0)
def Term.enc (t : Term) : List Go.Value := [.int .i64 t.1, .int .i64 t.2.1, Go.Ev.str t.2.2.1, .int .i64 t.2.2.2]
/-- All, or none where one is none. -/
def mapS {α β : Type} (f : α → Option β) : List α → Option (List β)
  | [] => some []
  | x :: l => (f x).bind fun y => (mapS f l).map (y :: ·)
theorem mapS_append {α β : Type} (f : α → Option β) : ∀ (l m : List α), mapS f (l ++ m) = (mapS f l).bind fun a => (mapS f m).map (a ++ ·)
  | [], m => by simp [mapS]
  | x :: l, m => by
    simp only [List.cons_append, mapS, mapS_append f l m]
    cases f x <;> simp
    cases mapS f l <;> simp [Function.comp_def]
theorem mapS_snoc {α β : Type} {f : α → Option β} {l : List α} {i : Nat} {x : α} (hx : l[i]? = some x) : mapS f (l.take (i + 1)) = (mapS f (l.take i)).bind fun a => (f x).map fun y => a ++ [y] := by
  rw [List.take_add_one, hx, Option.toList_some, mapS_append]
  simp only [mapS]
  cases mapS f (l.take i) <;> simp
  cases f x <;> simp
theorem mapS_none {α β : Type} {f : α → Option β} {l : List α} {i : Nat} (h : mapS f (l.take i) = none) : mapS f l = none := by
  rw [← List.take_append_drop i l, mapS_append, h]; rfl
theorem mapS_len {α β : Type} {f : α → Option β} : ∀ {l : List α} {r : List β}, mapS f l = some r → r.length = l.length
  | [], r, h => by cases h; rfl
  | x :: l, r, h => by
    simp only [mapS, Option.bind_eq_some_iff, Option.map_eq_some_iff] at h
    obtain ⟨y, _, a, ha, rfl⟩ := h
    simp [mapS_len ha]
def atomB (ps : List Pred) (cs : List Const) (vars : List (List UInt8)) (p : Pattern) : Option Atom := (at? ps p.1).bind fun pr => (mapS (termB cs vars) p.2).map fun l => (pr.1, l, 0)
end Edict
namespace Go.Ev
open Go Edict
theorem rep_const {u : U} {h : H} {k : Const} {cs : List Value} : Rep.rep u h k cs = (cs = [.int .i64 k.1, .int .i64 k.2.1, str k.2.2]) := by simp [rep_prod, rep_int, rep_str]
theorem rep_slot {u : U} {h : H} {k : Slot} {cs : List Value} : Rep.rep u h k cs = (cs = [.bool k.1, .int .i64 k.2]) := by simp [rep_prod, rep_int, rep_bool]
theorem rep_term {u : U} {h : H} {k : Term} {cs : List Value} : Rep.rep u h k cs = (cs = Term.enc k) := by simp [rep_prod, rep_int, rep_str, Term.enc]
theorem rep_pred {u : U} {h : H} {k : Pred} {cs : List Value} : Rep.rep u h k cs = (cs = [str k.1, .int .i64 k.2]) := by simp [rep_prod, rep_int, rep_str]
theorem rep_test {u : U} {h : H} {k : Test} {cs : List Value} : Rep.rep u h k cs = (cs = [.int .i64 k.1, .bool k.2.1.1, .int .i64 k.2.1.2, .bool k.2.2.1, .int .i64 k.2.2.2]) := by simp [rep_prod, rep_int, rep_bool]
theorem rep_atom {u : U} {h : H} {k : Atom} {cs : List Value} : Rep.rep u h k cs = ∃ v, cs = [str k.1, v, .int .i64 k.2.2] ∧ IsSl u h v k.2.1 := by
  simp only [rep_prod, rep_int, rep_str, rep_list]; apply propext; constructor
  · rintro ⟨_, _, rfl, rfl, _, _, rfl, ⟨v, rfl, hs⟩, rfl⟩; exact ⟨v, rfl, hs⟩
  · rintro ⟨v, rfl, hs⟩; exact ⟨_, _, rfl, rfl, _, _, rfl, ⟨v, rfl, hs⟩, rfl⟩
theorem rep_pattern {u : U} {h : H} {k : Pattern} {cs : List Value} : Rep.rep u h k cs = ∃ v, cs = [.int .i64 k.1, v] ∧ IsSl u h v k.2 := by
  simp only [rep_prod, rep_int, rep_list]; apply propext; constructor
  · rintro ⟨_, _, rfl, rfl, v, rfl, hs⟩; exact ⟨v, rfl, hs⟩
  · rintro ⟨v, rfl, hs⟩; exact ⟨_, _, rfl, rfl, v, rfl, hs⟩
theorem rep_row {u : U} {h : H} {k : Row} {cs : List Value} : Rep.rep u h k cs = ∃ v, cs = [.int .i64 k.1, v] ∧ IsSl u h v k.2 := by
  simp only [rep_prod, rep_int, rep_list]; apply propext; constructor
  · rintro ⟨_, _, rfl, rfl, v, rfl, hs⟩; exact ⟨v, rfl, hs⟩
  · rintro ⟨v, rfl, hs⟩; exact ⟨_, _, rfl, rfl, v, rfl, hs⟩
theorem rep_fact {u : U} {h : H} {k : Fact} {cs : List Value} : Rep.rep u h k cs = ∃ v, cs = [str k.1, v] ∧ IsSl u h v k.2 := by
  simp only [rep_prod, rep_str, rep_list]; apply propext; constructor
  · rintro ⟨_, _, rfl, rfl, v, rfl, hs⟩; exact ⟨v, rfl, hs⟩
  · rintro ⟨v, rfl, hs⟩; exact ⟨_, _, rfl, rfl, v, rfl, hs⟩
theorem rep_literal {u : U} {h : H} {k : Literal} {cs : List Value} : Rep.rep u h k cs = ∃ v, cs = .int .i64 k.1 :: str k.2.1.1 :: v :: .int .i64 k.2.1.2.2 :: .int .i64 k.2.2.1 :: (Term.enc k.2.2.2.1 ++ (Term.enc k.2.2.2.2.1 ++ [.int .i64 k.2.2.2.2.2])) ∧ IsSl u h v k.2.1.2.1 := by
  rw [rep_prod]; simp only [rep_prod (β := Int × Term × Term × Int), rep_prod (β := Term × Term × Int), rep_prod (β := Term × Int), rep_prod (α := Term) (β := Int), rep_atom, rep_term, rep_int]; apply propext; constructor
  · rintro ⟨_, _, rfl, rfl, _, _, rfl, ⟨v, rfl, hs⟩, _, _, rfl, rfl, _, _, rfl, rfl, _, _, rfl, rfl, rfl⟩; exact ⟨v, rfl, hs⟩
  · rintro ⟨v, rfl, hs⟩; exact ⟨_, _, rfl, rfl, _, _, rfl, ⟨v, rfl, hs⟩, _, _, rfl, rfl, _, _, rfl, rfl, _, _, rfl, rfl, rfl⟩
theorem rep_clause {u : U} {h : H} {k : Clause} {cs : List Value} : Rep.rep u h k cs = ∃ v w, cs = [str k.1.1, v, .int .i64 k.1.2.2, w] ∧ IsSl u h v k.1.2.1 ∧ IsSl u h w k.2 := by
  rw [rep_prod]; simp only [rep_atom, rep_list]; apply propext; constructor
  · rintro ⟨_, _, rfl, ⟨v, rfl, hs⟩, w, rfl, ht⟩; exact ⟨v, w, rfl, hs, ht⟩
  · rintro ⟨v, w, rfl, hs, ht⟩; exact ⟨_, _, rfl, ⟨v, rfl, hs⟩, w, rfl, ht⟩
theorem rep_rule {u : U} {h : H} {k : Rule} {cs : List Value} : Rep.rep u h k cs = ∃ v0 v1 v2 v3 v4, cs = [.int .i64 k.1.1, v0, v1, v2, v3, v4, .int .i64 k.2.2.2.2.2] ∧ IsSl u h v0 k.1.2 ∧ IsSl u h v1 k.2.1 ∧ IsSl u h v2 k.2.2.1 ∧ IsSl u h v3 k.2.2.2.1 ∧ IsSl u h v4 k.2.2.2.2.1 := by
  rw [rep_prod]; simp only [rep_prod (β := List Test × List Pattern × List (List UInt8) × Int), rep_prod (β := List Pattern × List (List UInt8) × Int), rep_prod (β := List (List UInt8) × Int), rep_prod (α := List (List UInt8)) (β := Int), rep_pattern, rep_list, rep_int]; apply propext; constructor
  · rintro ⟨_, _, rfl, ⟨v0, rfl, h0⟩, _, _, rfl, ⟨v1, rfl, h1⟩, _, _, rfl, ⟨v2, rfl, h2⟩, _, _, rfl, ⟨v3, rfl, h3⟩, _, _, rfl, ⟨v4, rfl, h4⟩, rfl⟩; exact ⟨v0, v1, v2, v3, v4, rfl, h0, h1, h2, h3, h4⟩
  · rintro ⟨v0, v1, v2, v3, v4, rfl, h0, h1, h2, h3, h4⟩; exact ⟨_, _, rfl, ⟨v0, rfl, h0⟩, _, _, rfl, ⟨v1, rfl, h1⟩, _, _, rfl, ⟨v2, rfl, h2⟩, _, _, rfl, ⟨v3, rfl, h3⟩, _, _, rfl, ⟨v4, rfl, h4⟩, rfl⟩
theorem sz_const : Rep.sz Const = 3 := rfl
theorem sz_slot : Rep.sz Slot = 2 := rfl
theorem sz_term : Rep.sz Term = 4 := rfl
theorem sz_pred : Rep.sz Pred = 2 := rfl
theorem sz_test : Rep.sz Test = 5 := rfl
theorem sz_atom : Rep.sz Atom = 3 := rfl
theorem sz_pattern : Rep.sz Pattern = 2 := rfl
theorem sz_literal : Rep.sz Literal = 14 := rfl
theorem sz_rule : Rep.sz Rule = 7 := rfl
theorem sz_row : Rep.sz Row = 2 := rfl
end Go.Ev
namespace Go.Proofs.Ytjkppoffffjkmaa
open Go Go.Ev Edict

def C_rfTermOf (vs : List Value) (h : H) (K : Value → H → Prop) : Prop :=
  ∃ (u : U) (c0 c1 c2 c3 vv : Value) (cs : List Const) (vars : List (List UInt8)) (s : Slot), vs = [.agg #[c0, c1, c2, c3], .agg #[.bool s.1, .int .i64 s.2], vv] ∧ IsSl u h c1 cs ∧ IsSl u h vv vars ∧
    ∀ u' h', Step S0 u h u' h' → K (.tuple #[.agg (Term.enc ((termB cs vars s).getD (0, 0, [], 0))).toArray, .bool (termB cs vars s).isSome]) h'
theorem rfTermOf_ok {vs : List Value} {h : H} {K : Value → H → Prop} {KP : List PanicEntry → H → Prop} (hC : C_rfTermOf vs h K) : HCX Try.prog 18 vs h K KP := by
  obtain ⟨u, c0, c1, c2, c3, vv, cs, vars, ⟨sv, sn⟩, rfl, hc, hv, hK⟩ := hC
  refine rfTermOf_H (fun _ _ _ _ _ => False) (fun _ _ _ _ _ h => h.elim) _ _ _ ?_
  obtain ⟨ca, cc, rfl, -, -⟩ := hc.sl
  obtain ⟨va, vc, rfl, -, -⟩ := hv.sl
  cases sv with
  | true =>
    by_cases hx : 0 ≤ sn ∧ sn < vars.length
    · obtain ⟨n, rfl⟩ := Int.eq_ofNat_of_zero_le hx.1
      obtain ⟨x, hx1, hx2⟩ := at_some hx.1 hx.2
      obtain ⟨b, o, rfl, hb, hu, hz, hr⟩ := hv.row n x hx2
      simp only [rep_str, sz_str, hvs_1, List.cons.injEq, and_true] at hr hu hz
      have hz' : o + n * 1 < hsz h b := by omega
      have hlt : n < vars.length := by omega
      simp only [termB, hx1, if_true, Option.map_some] at hK
      simp (disch := first | omega | (simp only [e_ssz, e_psz, e_hszs, List.length_cons, List.length_nil]; try omega; done)) only [↓reduceIte, go_sem, rfTermOf_S, rfTermOf_E, Nat.not_le.2 hlt, hr, hz', hlt]
      exact hK _ _ (by repeat (first | exact Step.refl _ _ _ | assumption | apply Step.pushR))
    · simp only [termB, at_none (show sn < 0 ∨ (vars.length : Int) ≤ sn by omega), if_true, Option.map_none] at hK
      simp (disch := first | omega | (simp only [e_ssz, e_psz, e_hszs, List.length_cons, List.length_nil]; try omega; done)) only [↓reduceIte, go_sem, rfTermOf_S, rfTermOf_E, show sn < 0 ∨ (vars.length : Int) ≤ sn by omega]
      exact hK _ _ (by repeat (first | exact Step.refl _ _ _ | assumption | apply Step.pushR))
  | false =>
    by_cases hx : 0 ≤ sn ∧ sn < cs.length
    · obtain ⟨n, rfl⟩ := Int.eq_ofNat_of_zero_le hx.1
      obtain ⟨x, hx1, hx2⟩ := at_some hx.1 hx.2
      obtain ⟨b, o, rfl, hb, hu, hz, hr⟩ := hc.row n x hx2
      simp only [rep_const, sz_const, hvs_3, List.cons.injEq, and_true] at hr hu hz
      have hlt : n < cs.length := by omega
      simp only [termB, hx1, if_false, Option.map_some, Bool.false_eq_true] at hK
      simp (disch := first | omega | (simp only [e_ssz, e_psz, e_hszs, List.length_cons, List.length_nil]; try omega; done)) only [↓reduceIte, go_sem, rfTermOf_S, rfTermOf_E, Nat.not_le.2 hlt, hr.1, hr.2.1, hr.2.2, hlt, hz]
      exact hK _ _ (by repeat (first | exact Step.refl _ _ _ | assumption | apply Step.pushR))
    · simp only [termB, at_none (show sn < 0 ∨ (cs.length : Int) ≤ sn by omega), if_false, Option.map_none, Bool.false_eq_true] at hK
      simp (disch := first | omega | (simp only [e_ssz, e_psz, e_hszs, List.length_cons, List.length_nil]; try omega; done)) only [↓reduceIte, go_sem, rfTermOf_S, rfTermOf_E, show sn < 0 ∨ (cs.length : Int) ≤ sn by omega]
      exact hK _ _ (by repeat (first | exact Step.refl _ _ _ | assumption | apply Step.pushR))

def C_rfAtomOf (vs : List Value) (h : H) (K : Value → H → Prop) : Prop :=
  ∃ (u : U) (c0 c1 c2 c3 pv vv : Value) (ps : List Pred) (cs : List Const) (vars : List (List UInt8)) (p : Pattern), vs = [.agg #[c0, c1, c2, c3], .agg #[.int .i64 p.1, pv], vv] ∧ IsSl u h c0 ps ∧ IsSl u h c1 cs ∧ IsSl u h vv vars ∧ IsSl u h pv p.2 ∧ p.2.length ≤ 1048576 ∧
    ∀ u' h' l, Step S0 u h u' h' → Rep.rep u' h' ((atomB ps cs vars p).getD ([], [], 0)) l → K (.tuple #[.agg l.toArray, .bool (atomB ps cs vars p).isSome]) h'
def G_rfAtomOf : Ctr := fun f vs h K _ => f = 18 ∧ C_rfTermOf vs h K
theorem G_rfAtomOf_ok : GOk Try.prog G_rfAtomOf := by
  rintro f vs h K KP ⟨rfl, hC⟩; exact rfTermOf_ok hC
theorem rfAtomOf_ok {vs : List Value} {h : H} {K : Value → H → Prop} {KP : List PanicEntry → H → Prop} (hC : C_rfAtomOf vs h K) : HCX Try.prog 17 vs h K KP := by
  obtain ⟨u, c0, c1, c2, c3, pv, vv, ps, cs, vars, ⟨pn, pa⟩, rfl, hp, hc, hv, hpa, hlen, hK⟩ := hC
  replace hlen : pa.length ≤ 1048576 := hlen
  replace hpa : IsSl u h pv pa := hpa
  refine rfAtomOf_H G_rfAtomOf G_rfAtomOf_ok _ _ _ ?_
  obtain ⟨psa, psc, rfl, -, -⟩ := hp.sl
  obtain ⟨paa, pac, rfl, -, -⟩ := hpa.sl
  by_cases hx : 0 ≤ pn ∧ pn < ps.length
  · obtain ⟨n, rfl⟩ := Int.eq_ofNat_of_zero_le hx.1
    obtain ⟨x, hx1, hx2⟩ := at_some hx.1 hx.2
    obtain ⟨b, o, rfl, hb, hu, hz, hr⟩ := hp.row n x hx2
    simp only [rep_pred, sz_pred, hvs_2, List.cons.injEq, and_true] at hr hu hz
    have hlt : n < ps.length := by omega
    simp only [atomB, hx1, Option.bind_some] at hK
    simp (disch := first | omega | (simp only [e_ssz, e_psz, e_hszs, List.length_cons, List.length_nil]; try omega; done)) only [↓reduceIte, go_sem, rfAtomOf_S, rfAtomOf_E, Nat.not_le.2 hlt, hr.1, hlt, show o + n * 2 < hsz h b by omega]
    obtain ⟨I, hI⟩ : ∃ I : (Nat × List Term) → Env → H → Prop, I = fun y σ h' => σ 2 = vv ∧ σ 3 = .pointer (some ⟨h.size, 0, none⟩) ∧ σ 4 = .pointer (some ⟨h.size + 1, 0, none⟩) ∧ σ 6 = .pointer (some ⟨h.size + 1 + 1, 0, none⟩) ∧ σ 8 = .pointer (some ⟨h.size + 1 + 1 + 1, 0, none⟩) ∧
        σ 9 = .int .i64 y.1 ∧ y.1 ≤ pa.length ∧ mapS (termB cs vars) (pa.take y.1) = some y.2 ∧ ∃ u' av, Step S0 u h u' h' ∧ Blk u' h' h.size [.slice (some ⟨b, o, none⟩) ps.length psc, c1, c2, c3] ∧ Blk u' h' (h.size + 1) [.int .i64 n, .slice paa pa.length pac] ∧
        Blk u' h' (h.size + 1 + 1) [str [], .slice none 0 0, .int .i64 0] ∧ Blk u' h' (h.size + 1 + 1 + 1) [str x.1, av, .int .i64 0] ∧ Own (h.size + 4) u' h' av y.2 ∧ h.size + 4 ≤ h'.size := ⟨_, rfl⟩
    refine wpS_loop I (fun y => pa.length - y.1) (0, []) (by
      rw [hI]
      exact ⟨by simp [upd], by simp [upd], by simp [upd], by simp [upd], by simp [upd], by simp [upd], by simp, rfl, _, .slice none 0 0, (by repeat (first | exact Step.refl _ _ _ | assumption | apply Step.pushR)), (Blk.mk (by simp only [e_psz]; omega) (by simp (disch := first | omega | (simp only [e_ssz, e_psz, e_hszs, List.length_cons, List.length_nil]; try omega; done)) only [go_sem]) (by simp (disch := first | omega | (simp only [e_ssz, e_psz, e_hszs, List.length_cons, List.length_nil]; try omega; done)) only [go_sem]) (by repeat (first | (refine ub_at ?_; simp only [e_psz]; done) | apply ub_zero)) (by simp (disch := first | omega | (simp only [e_ssz, e_psz, e_hszs, List.length_cons, List.length_nil]; try omega; done)) only [go_sem])), (Blk.mk (by simp only [e_psz]; omega) (by simp (disch := first | omega | (simp only [e_ssz, e_psz, e_hszs, List.length_cons, List.length_nil]; try omega; done)) only [go_sem]) (by simp (disch := first | omega | (simp only [e_ssz, e_psz, e_hszs, List.length_cons, List.length_nil]; try omega; done)) only [go_sem]) (by repeat (first | (refine ub_at ?_; simp only [e_psz]; done) | apply ub_zero)) (by simp (disch := first | omega | (simp only [e_ssz, e_psz, e_hszs, List.length_cons, List.length_nil]; try omega; done)) only [go_sem])), (Blk.mk (by simp only [e_psz]; omega) (by simp (disch := first | omega | (simp only [e_ssz, e_psz, e_hszs, List.length_cons, List.length_nil]; try omega; done)) only [go_sem]) (by simp (disch := first | omega | (simp only [e_ssz, e_psz, e_hszs, List.length_cons, List.length_nil]; try omega; done)) only [go_sem]) (by repeat (first | (refine ub_at ?_; simp only [e_psz]; done) | apply ub_zero)) (by simp (disch := first | omega | (simp only [e_ssz, e_psz, e_hszs, List.length_cons, List.length_nil]; try omega; done)) only [go_sem])), (Blk.mk (by simp only [e_psz]; omega) (by simp (disch := first | omega | (simp only [e_ssz, e_psz, e_hszs, List.length_cons, List.length_nil]; try omega; done)) only [go_sem]) (by simp (disch := first | omega | (simp only [e_ssz, e_psz, e_hszs, List.length_cons, List.length_nil]; try omega; done)) only [go_sem]) (by repeat (first | (refine ub_at ?_; simp only [e_psz]; done) | apply ub_zero)) (by simp (disch := first | omega | (simp only [e_ssz, e_psz, e_hszs, List.length_cons, List.length_nil]; try omega; done)) only [go_sem])), .nil _ _ _, by simp only [e_psz]; omega⟩) ?_
    intro ⟨i, acc⟩ σ h' hy
    rw [hI] at hy
    obtain ⟨e2, e3, e4, e6, e8, e9, hi, hacc, u', av, st, b0, b1, b2, b3, ho, hks⟩ := hy
    simp only at e9 hi hacc ho
    by_cases hlt2 : i < pa.length
    · obtain ⟨s, hs⟩ : ∃ s, pa[i]? = some s := ⟨pa[i], by simp [hlt2]⟩
      obtain ⟨pb, po, rfl, hpb, hpu, hpz, hpr⟩ := (hpa.mono st.ge).row i s hs
      simp only [rep_slot, sz_slot, hvs_2, List.cons.injEq, and_true] at hpr hpu hpz
      have hz1 : po + i * 2 + 1 < hsz h' pb := by omega
      have hz2 : po + i * 2 < hsz h' pb := by omega
      have hz3 : po + i * 2 + 2 ≤ hsz h' pb := by omega
      simp (disch := first | omega | (simp only [e_ssz, e_psz, e_hszs, List.length_cons, List.length_nil]; try omega; done)) only [↓reduceIte, go_sem, rfAtomOf_L1, e4, e9, b1.at, b1.2.1, hlt2]
      refine w_join (fun σ' h2 => keepE σ σ' [2, 3, 4, 6, 8, 9] ∧ ∃ u2 p, Step S0 u' h' u2 h2 ∧ σ' 10 = .pointer (some ⟨p, 0, none⟩) ∧ h'.size ≤ p ∧ Blk u2 h2 p (Term.enc ((termB cs vars s).getD (0, 0, [], 0))) ∧ σ' 11 = .bool (termB cs vars s).isSome) ?_ ?_
      · simp (disch := first | omega | (simp only [e_ssz, e_psz, e_hszs, List.length_cons, List.length_nil]; try omega; done)) only [↓reduceIte, go_sem, w_both, e2, e3, e4, e6, e8, e9, b0.at, b1.at, b0.2.1, b1.2.1, hlt2, hpr.1, hpr.2, hz3]
        refine ⟨effS_call ⟨rfl, u', _, _, _, _, _, cs, vars, s, rfl, hc.mono st.ge, hv.mono st.ge, fun u2 h2 s2 => ?_⟩, ?_⟩
        · simp (disch := first | omega | (simp only [e_ssz, e_psz, e_hszs, List.length_cons, List.length_nil]; try omega; done)) only [↓reduceIte, go_sem, Term.enc, e2, e3, e4, e6, e8, e9]
          have := s2.ge.sz
          exact ⟨_, (by repeat (first | exact Step.refl _ _ _ | assumption | apply Step.pushR)), this, (Blk.mk (by simp only [e_psz]; omega) (by simp (disch := first | omega | (simp only [e_ssz, e_psz, e_hszs, List.length_cons, List.length_nil]; try omega; done)) only [go_sem]) (by simp (disch := first | omega | (simp only [e_ssz, e_psz, e_hszs, List.length_cons, List.length_nil]; try omega; done)) only [go_sem]) (by repeat (first | (refine ub_at ?_; simp only []; done) | apply ub_zero)) (by simp (disch := first | omega | (simp only [e_ssz, e_psz, e_hszs, List.length_cons, List.length_nil]; try omega; done)) only [go_sem]))⟩
        · refine effS_call ⟨rfl, ub u' h'.size 0, _, _, _, _, _, cs, vars, s, rfl, (hc.mono st.ge).mono (Step.push S0 _ _ _ _ 0).ge, (hv.mono st.ge).mono (Step.push S0 _ _ _ _ 0).ge, fun u2 h2 s2 => ?_⟩
          have b5 : Blk (ub u' h'.size 0) (h'.push (.cells #[.int .i64 0, .int .i64 0, str [], .int .i64 0] 66)) h'.size [.int .i64 0, .int .i64 0, str [], .int .i64 0] := (Blk.mk (by simp only [e_psz]; omega) (by simp (disch := first | omega | (simp only [e_ssz, e_psz, e_hszs, List.length_cons, List.length_nil]; try omega; done)) only [go_sem]) (by simp (disch := first | omega | (simp only [e_ssz, e_psz, e_hszs, List.length_cons, List.length_nil]; try omega; done)) only [go_sem]) (by repeat (first | (refine ub_at ?_; simp only []; done) | apply ub_zero)) (by simp (disch := first | omega | (simp only [e_ssz, e_psz, e_hszs, List.length_cons, List.length_nil]; try omega; done)) only [go_sem]))
          have b6 := b5.step0 s2
          simp (disch := first | omega | (simp only [e_ssz, e_psz, e_hszs, List.length_cons, List.length_nil]; try omega; done)) only [↓reduceIte, go_sem, Term.enc, e2, e3, e4, e6, e8, e9, b6.2.1, b6.2.2.1]
          exact ⟨u2, Step.setsR ((Step.push0 S0 u' h' _ _).trans0 s2) (.inl (Nat.le_refl _)) (by rw [b6.2.2.2.1]; exact Nat.le_refl _) (by rw [b6.2.1]; exact Nat.le_refl _), Nat.le_refl _, b6.sets rfl⟩
      · rintro σ' h2 ⟨hkE, u2, p, s2, e10, hp', b5, e11⟩
        simp (disch := first | omega | (simp only [e_ssz, e_psz, e_hszs, List.length_cons, List.length_nil]; try omega; done)) only [go_sem, e2, e3, e4, e6, e8, e9] at hkE
        obtain ⟨k2, k3, k4, k6, k8, k9⟩ := hkE
        have hks2 : h.size + 4 ≤ h2.size := Nat.le_trans hks s2.ge.sz
        have c0 := b0.step0 s2
        have c1 := b1.step0 s2
        have c2 := b2.step0 s2
        have c3 := b3.step0 s2
        cases ht : termB cs vars s with
        | none =>
          rw [ht] at e11
          have hn : mapS (termB cs vars) pa = none := mapS_none (i := i + 1) (by rw [mapS_snoc hs, hacc, ht]; rfl)
          rw [hn] at hK
          have d2 := c2.sets (l := [str [], .slice none 0 0, .int .i64 0]) rfl
          simp (disch := first | omega | (simp only [e_ssz, e_psz, e_hszs, List.length_cons, List.length_nil]; try omega; done)) only [↓reduceIte, go_sem, k6, e11, Option.isSome_none, c2.2.1, c2.2.2.1, d2.at, d2.2.1]
          exact hK _ _ _ (Step.setsR (st.trans0 s2) (.inl (by omega)) (by rw [c2.2.2.2.1]; exact Nat.le_refl _) (by rw [c2.2.1]; exact Nat.le_refl _)) (by rw [rep_atom]; exact ⟨_, rfl, .nil _ _⟩)
        | some t =>
          rw [ht] at e11 b5
          simp only [Option.getD_some, Term.enc] at b5
          simp (disch := first | omega | (simp only [e_ssz, e_psz, e_hszs, List.length_cons, List.length_nil]; try omega; done)) only [↓reduceIte, go_sem, k8, e10, e11, Option.isSome_some, c3.at, c3.2.1, b5.at, b5.2.1]
          have ho2 := ho.step0 s2
          have hal := mapS_len hacc
          rw [List.length_take] at hal
          refine effS_app1 ho2 (x := t) (by rw [rep_term]; rfl) rfl rfl hks2 (by omega) fun a' n' c' u3 h3 ho3 s3 => ⟨by simp (disch := first | omega | (simp only [e_ssz, e_psz, e_hszs, List.length_cons, List.length_nil]; try omega; done)) only [go_sem], ?_⟩
          have hne : ∀ b, OwnB av b → h.size + 4 ≤ b := fun b hb => ho2.ge hb
          have d0 := c0.step s3 (fun hB => by have := hne _ hB; omega)
          have d1 := c1.step s3 (fun hB => by have := hne _ hB; omega)
          have d2 := c2.step s3 (fun hB => by have := hne _ hB; omega)
          have d3 := c3.step s3 (fun hB => by have := hne _ hB; omega)
          have hks3 : h.size + 4 ≤ h3.size := Nat.le_trans hks2 s3.ge.sz
          simp (disch := first | omega | (simp only [e_ssz, e_psz, e_hszs, List.length_cons, List.length_nil]; try omega; done)) only [↓reduceIte, go_sem, k8, k9, d3.2.1, d3.2.2.1]
          have s4 : Step (fun b => b = h.size + 1 + 1 + 1) u3 h3 u3 (hset h3 (h.size + 1 + 1 + 1) 1 (.slice a' n' c')) := Step.set u3 h3 _ rfl (by rw [d3.2.2.2.1]; exact Nat.zero_le _)
          refine ⟨(i + 1, acc ++ [t]), ?_, by simp only; omega⟩
          rw [hI]
          refine ⟨by simp [upd, k2], by simp [upd, k3], by simp [upd, k4], by simp [upd, k6], by simp [upd, k8], by simp [upd], hlt2, ?_, u3, _, ((st.trans0 s2).trans s3 (fun b hb hB => by have := hne _ hB; omega)).trans s4 (fun b hb e => by omega),
            d0.step s4 (by omega), d1.step s4 (by omega), d2.step s4 (by omega), d3.set (i := 1) (by simp), ho3.step s4 (fun b hb e => by have := ho3.ge hb; omega), by rw [e_ssz]; exact hks3⟩
          rw [mapS_snoc hs, hacc, ht]; rfl
    · obtain rfl : i = pa.length := by omega
      rw [List.take_length] at hacc
      rw [hacc] at hK
      have d2 := b2.sets (l := [str x.1, av, .int .i64 0]) rfl
      obtain ⟨ava, avc, rfl, -, -⟩ := ho.sl
      simp (disch := first | omega | (simp only [e_ssz, e_psz, e_hszs, List.length_cons, List.length_nil]; try omega; done)) only [↓reduceIte, go_sem, rfAtomOf_L1, e4, e6, e8, e9, b1.at, b3.at, b1.2.1, b2.2.1, b3.2.1, b2.2.2.1, d2.at, d2.2.1]
      have s4 : Step (fun b => b = h.size + 1 + 1) u' h' u' (hsets h' (h.size + 1 + 1) 0 [str x.1, .slice ava acc.length avc, .int .i64 0]) := Step.sets u' h' _ rfl (by rw [b2.2.2.2.1]; exact Nat.zero_le _) (by rw [b2.2.1]; exact Nat.le_refl _)
      exact hK _ _ _ (st.trans s4 (fun b hb e => by omega)) (by rw [rep_atom]; exact ⟨_, rfl, ho.isSl.mono s4.ge⟩)
  · simp only [atomB, at_none (show pn < 0 ∨ (ps.length : Int) ≤ pn by omega), Option.bind_none] at hK
    simp (disch := first | omega | (simp only [e_ssz, e_psz, e_hszs, List.length_cons, List.length_nil]; try omega; done)) only [↓reduceIte, go_sem, rfAtomOf_S, rfAtomOf_E, show pn < 0 ∨ (ps.length : Int) ≤ pn by omega]
    exact hK _ _ _ (by repeat (first | exact Step.refl _ _ _ | assumption | apply Step.pushR)) (by rw [rep_atom]; exact ⟨_, rfl, .nil _ _⟩)

def C_crTerm (vs : List Value) (h : H) (K : Value → H → Prop) : Prop :=
  ∃ (u : U) (b : Nat) (vp vc vr vf vv : Value) (lost : Bool) (cs : List Const) (vars : List (List UInt8)) (s : Slot), vs = [.pointer (some ⟨b, 0, none⟩), .agg #[.bool s.1, .int .i64 s.2]] ∧ Blk u h b [vp, vc, vr, vf, vv, .bool lost] ∧ IsSl u h vc cs ∧ IsSl u h vv vars ∧
    ∀ u' h', Step (fun i => i = b) u h u' h' → Blk u' h' b [vp, vc, vr, vf, vv, .bool (lost || (termB cs vars s).isNone)] → K (.agg (Term.enc ((termB cs vars s).getD (0, 0, [], 0))).toArray) h'
theorem crTerm_ok {vs : List Value} {h : H} {K : Value → H → Prop} {KP : List PanicEntry → H → Prop} (hC : C_crTerm vs h K) : HCX Try.prog 16 vs h K KP := by
  obtain ⟨u, B, vp, vc, vr, vf, vv, lost, cs, vars, ⟨sv, sn⟩, rfl, hB, hc, hv, hK⟩ := hC
  refine crTerm_H (fun _ _ _ _ _ => False) (fun _ _ _ _ _ h => h.elim) _ _ ?_
  obtain ⟨ca, cc, rfl, -, -⟩ := hc.sl
  obtain ⟨va, vc', rfl, -, -⟩ := hv.sl
  have hBl : B < h.size := hB.1
  have s1 : Step (fun i => i = B) u h u (hset h B 5 (.bool true)) := Step.set u h _ rfl (by rw [hB.2.2.2.1]; exact Nat.zero_le _)
  have hB1 : Blk u (hset h B 5 (.bool true)) B [vp, .slice ca cs.length cc, vr, vf, .slice va vars.length vc', .bool true] := hB.set (i := 5) (by simp)
  cases sv with
  | true =>
    by_cases hx : 0 ≤ sn ∧ sn < vars.length
    · obtain ⟨n, rfl⟩ := Int.eq_ofNat_of_zero_le hx.1
      obtain ⟨x, hx1, hx2⟩ := at_some hx.1 hx.2
      obtain ⟨b, o, rfl, hb, hu, hz, hr⟩ := hv.row n x hx2
      simp only [rep_str, sz_str, hvs_1, List.cons.injEq, and_true] at hr hu hz
      have hz' : o + n * 1 < hsz h b := by omega
      have hlt : n < vars.length := by omega
      simp only [termB, hx1, if_true, Option.map_some, Option.isNone_some, Bool.or_false] at hK
      simp (disch := first | omega | (simp only [e_ssz, e_psz, e_hszs, List.length_cons, List.length_nil]; try omega; done)) only [↓reduceIte, go_sem, crTerm_S, crTerm_E, Nat.not_le.2 hlt, hr, hz', hlt, hB.at, hB.2.1]
      exact hK _ _ (by repeat (first | exact Step.refl _ _ _ | assumption | apply Step.pushR)) (by repeat (first | assumption | apply Blk.pushR))
    · simp only [termB, at_none (show sn < 0 ∨ (vars.length : Int) ≤ sn by omega), if_true, Option.map_none, Option.isNone_none, Bool.or_true] at hK
      simp (disch := first | omega | (simp only [e_ssz, e_psz, e_hszs, List.length_cons, List.length_nil]; try omega; done)) only [↓reduceIte, go_sem, crTerm_S, crTerm_E, show sn < 0 ∨ (vars.length : Int) ≤ sn by omega, hB.at, hB.2.1, hB.2.2.1]
      exact hK _ _ (by repeat (first | exact Step.refl _ _ _ | assumption | apply Step.pushR)) (by repeat (first | assumption | apply Blk.pushR))
  | false =>
    by_cases hx : 0 ≤ sn ∧ sn < cs.length
    · obtain ⟨n, rfl⟩ := Int.eq_ofNat_of_zero_le hx.1
      obtain ⟨x, hx1, hx2⟩ := at_some hx.1 hx.2
      obtain ⟨b, o, rfl, hb, hu, hz, hr⟩ := hc.row n x hx2
      simp only [rep_const, sz_const, hvs_3, List.cons.injEq, and_true] at hr hu hz
      have hlt : n < cs.length := by omega
      simp only [termB, hx1, if_false, Option.map_some, Bool.false_eq_true, Option.isNone_some, Bool.or_false] at hK
      simp (disch := first | omega | (simp only [e_ssz, e_psz, e_hszs, List.length_cons, List.length_nil]; try omega; done)) only [↓reduceIte, go_sem, crTerm_S, crTerm_E, Nat.not_le.2 hlt, hr.1, hr.2.1, hr.2.2, hlt, hz, hB.at, hB.2.1]
      exact hK _ _ (by repeat (first | exact Step.refl _ _ _ | assumption | apply Step.pushR)) (by repeat (first | assumption | apply Blk.pushR))
    · simp only [termB, at_none (show sn < 0 ∨ (cs.length : Int) ≤ sn by omega), if_false, Option.map_none, Bool.false_eq_true, Option.isNone_none, Bool.or_true] at hK
      simp (disch := first | omega | (simp only [e_ssz, e_psz, e_hszs, List.length_cons, List.length_nil]; try omega; done)) only [↓reduceIte, go_sem, crTerm_S, crTerm_E, show sn < 0 ∨ (cs.length : Int) ≤ sn by omega, hB.at, hB.2.1, hB.2.2.1]
      exact hK _ _ (by repeat (first | exact Step.refl _ _ _ | assumption | apply Step.pushR)) (by repeat (first | assumption | apply Blk.pushR))

def C_crAtom (vs : List Value) (h : H) (K : Value → H → Prop) : Prop :=
  ∃ (u : U) (b : Nat) (vp vc vr vf vv pv : Value) (lost : Bool) (ps : List Pred) (cs : List Const) (vars : List (List UInt8)) (p : Pattern), vs = [.pointer (some ⟨b, 0, none⟩), .agg #[.int .i64 p.1, pv]] ∧ Blk u h b [vp, vc, vr, vf, vv, .bool lost] ∧
    IsSl u h vp ps ∧ IsSl u h vc cs ∧ IsSl u h vv vars ∧ IsSl u h pv p.2 ∧ p.2.length ≤ 1048576 ∧
    ∀ u' h' l a, Step (fun i => i = b) u h u' h' → Blk u' h' b [vp, vc, vr, vf, vv, .bool (lost || (atomB ps cs vars p).isNone)] → (∀ a0, atomB ps cs vars p = some a0 → a = a0) → Rep.rep u' h' a l → K (.agg l.toArray) h'
def G_crAtom : Ctr := fun f vs h K _ => f = 16 ∧ C_crTerm vs h K
theorem G_crAtom_ok : GOk Try.prog G_crAtom := by
  rintro f vs h K KP ⟨rfl, hC⟩; exact crTerm_ok hC
theorem crAtom_ok {vs : List Value} {h : H} {K : Value → H → Prop} {KP : List PanicEntry → H → Prop} (hC : C_crAtom vs h K) : HCX Try.prog 15 vs h K KP := by
  obtain ⟨u, B, vp, vc, vr, vf, vv, pv, lost, ps, cs, vars, ⟨pn, pa⟩, rfl, hB, hp, hc, hv, hpa, hlen, hK⟩ := hC
  replace hlen : pa.length ≤ 1048576 := hlen
  replace hpa : IsSl u h pv pa := hpa
  refine crAtom_H G_crAtom G_crAtom_ok _ _ ?_
  obtain ⟨psa, psc, rfl, -, -⟩ := hp.sl
  obtain ⟨paa, pac, rfl, -, -⟩ := hpa.sl
  have hBl : B < h.size := hB.1
  have s1 : Step (fun i => i = B) u h u (hset h B 5 (.bool true)) := Step.set u h _ rfl (by rw [hB.2.2.2.1]; exact Nat.zero_le _)
  have hB1 : Blk u (hset h B 5 (.bool true)) B [.slice psa ps.length psc, vc, vr, vf, vv, .bool true] := hB.set (i := 5) (by simp)
  by_cases hx : 0 ≤ pn ∧ pn < ps.length
  · obtain ⟨n, rfl⟩ := Int.eq_ofNat_of_zero_le hx.1
    obtain ⟨x, hx1, hx2⟩ := at_some hx.1 hx.2
    obtain ⟨b, o, rfl, hb, hu, hz, hr⟩ := hp.row n x hx2
    simp only [rep_pred, sz_pred, hvs_2, List.cons.injEq, and_true] at hr hu hz
    have hlt : n < ps.length := by omega
    have hz1 : o + n * 2 < hsz h b := by omega
    simp only [atomB, hx1, Option.bind_some] at hK
    simp (disch := first | omega | (simp only [e_ssz, e_psz, e_hszs, List.length_cons, List.length_nil]; try omega; done)) only [↓reduceIte, go_sem, crAtom_S, crAtom_E, Nat.not_le.2 hlt, hr.1, hlt, hz1, hB.at, hB.2.1]
    obtain ⟨I, hI⟩ : ∃ I : (Nat × List Term) → Env → H → Prop, I = fun y σ h' => σ 0 = .pointer (some ⟨B, 0, none⟩) ∧ σ 3 = .pointer (some ⟨h.size, 0, none⟩) ∧ σ 4 = .pointer (some ⟨h.size + 1, 0, none⟩) ∧ σ 5 = .pointer (some ⟨h.size + 1 + 1, 0, none⟩) ∧
        σ 38 = .slice paa pa.length pac ∧ σ 39 = .int .i64 pa.length ∧ σ 40 = .int .i64 y.1 ∧ y.1 ≤ pa.length ∧ y.2.length = y.1 ∧ (∀ r, mapS (termB cs vars) (pa.take y.1) = some r → y.2 = r) ∧
        ∃ u' av, Step (fun i => i = B) u h u' h' ∧ Blk u' h' B [.slice (some ⟨b, o, none⟩) ps.length psc, vc, vr, vf, vv, .bool (lost || (mapS (termB cs vars) (pa.take y.1)).isNone)] ∧
        Blk u' h' (h.size + 1) [str [], .slice none 0 0, .int .i64 0] ∧ Blk u' h' (h.size + 1 + 1) [str x.1, av, .int .i64 0] ∧ Own (h.size + 3) u' h' av y.2 ∧ h.size + 3 ≤ h'.size := ⟨_, rfl⟩
    refine wpS_loop I (fun y => pa.length - y.1) (0, []) (by
      rw [hI]
      exact ⟨by simp [upd], by simp [upd], by simp [upd], by simp [upd], by simp [upd], by simp [upd], by simp [upd], by simp, rfl, fun r hr => by simpa [mapS] using hr, _, .slice none 0 0, (by repeat (first | exact Step.refl _ _ _ | assumption | apply Step.pushR)), by simp only [List.take_zero, mapS, Option.isNone_some, Bool.or_false]; exact (by repeat (first | assumption | apply Blk.pushR)), (Blk.mk (by simp only [e_psz]; omega) (by simp (disch := first | omega | (simp only [e_ssz, e_psz, e_hszs, List.length_cons, List.length_nil]; try omega; done)) only [go_sem]) (by simp (disch := first | omega | (simp only [e_ssz, e_psz, e_hszs, List.length_cons, List.length_nil]; try omega; done)) only [go_sem]) (by repeat (first | (refine ub_at ?_; simp only [e_psz]; done) | apply ub_zero)) (by simp (disch := first | omega | (simp only [e_ssz, e_psz, e_hszs, List.length_cons, List.length_nil]; try omega; done)) only [go_sem])), (Blk.mk (by simp only [e_psz]; omega) (by simp (disch := first | omega | (simp only [e_ssz, e_psz, e_hszs, List.length_cons, List.length_nil]; try omega; done)) only [go_sem]) (by simp (disch := first | omega | (simp only [e_ssz, e_psz, e_hszs, List.length_cons, List.length_nil]; try omega; done)) only [go_sem]) (by repeat (first | (refine ub_at ?_; simp only [e_psz]; done) | apply ub_zero)) (by simp (disch := first | omega | (simp only [e_ssz, e_psz, e_hszs, List.length_cons, List.length_nil]; try omega; done)) only [go_sem])), .nil _ _ _, by simp only [e_psz]; omega⟩) ?_
    intro ⟨i, acc⟩ σ h' hy
    rw [hI] at hy
    obtain ⟨e0, e3, e4, e5, e38, e39, e40, hi, hal, hacc, u', av, st, bB, b1, b2, ho, hks⟩ := hy
    simp only at e40 hi hacc hal ho bB
    have hBl' : B < h'.size := bB.1
    by_cases hlt2 : i < pa.length
    · obtain ⟨s, hs⟩ : ∃ s, pa[i]? = some s := ⟨pa[i], by simp [hlt2]⟩
      obtain ⟨pb, po, rfl, hpb, hpu, hpz, hpr⟩ := (hpa.mono st.ge).row i s hs
      simp only [rep_slot, sz_slot, hvs_2, List.cons.injEq, and_true] at hpr hpu hpz
      have hz1 : po + i * 2 + 1 < hsz h' pb := by omega
      have hz2 : po + i * 2 < hsz h' pb := by omega
      have hz3 : po + i * 2 + 2 ≤ hsz h' pb := by omega
      simp (disch := first | omega | (simp only [e_ssz, e_psz, e_hszs, List.length_cons, List.length_nil]; try omega; done)) only [↓reduceIte, go_sem, crAtom_L1, e0, e5, e38, e39, e40, b2.at, b2.2.1, hlt2, hpr.1, hpr.2, hz3]
      have sp := Step.push S0 u' h' #[.bool s.1, .int .i64 s.2] 70 0
      refine effS_call ⟨rfl, ub u' h'.size 0, B, _, _, _, _, _, _, cs, vars, s, rfl, bB.step0 sp, (hc.mono st.ge).mono sp.ge, (hv.mono st.ge).mono sp.ge, fun u2 h2 s2 cB => ?_⟩
      have t2 : Step (fun i => i = B) u' h' u2 h2 := (sp.mono (fun _ _ h => h.elim)).trans s2 (fun _ _ h => h)
      have c1 := b1.step t2 (by omega)
      have c2 := b2.step t2 (by omega)
      have ho2 := ho.step t2 (fun b hb e => by have := ho.ge hb; omega)
      have hks2 : h.size + 3 ≤ h2.size := Nat.le_trans hks t2.ge.sz
      simp (disch := first | omega | (simp only [e_ssz, e_psz, e_hszs, List.length_cons, List.length_nil]; try omega; done)) only [↓reduceIte, go_sem, e5, b2.at, c2.at, c2.2.1, Term.enc]
      refine effS_app1 ho2 (x := (termB cs vars s).getD (0, 0, [], 0)) (by rw [rep_term]; rfl) rfl rfl hks2 (by omega) fun a' n' c' u3 h3 ho3 s3 => ⟨by simp (disch := first | omega | (simp only [e_ssz, e_psz, e_hszs, List.length_cons, List.length_nil]; try omega; done)) only [go_sem], ?_⟩
      have hne : ∀ b, OwnB av b → h.size + 3 ≤ b := fun b hb => ho2.ge hb
      have dB := cB.step s3 (fun hB => by have := hne _ hB; omega)
      have d1 := c1.step s3 (fun hB => by have := hne _ hB; omega)
      have d2 := c2.step s3 (fun hB => by have := hne _ hB; omega)
      have hks3 : h.size + 3 ≤ h3.size := Nat.le_trans hks2 s3.ge.sz
      simp (disch := first | omega | (simp only [e_ssz, e_psz, e_hszs, List.length_cons, List.length_nil]; try omega; done)) only [↓reduceIte, go_sem, e5, e40, d2.2.1, d2.2.2.1]
      have s4 : Step (fun b => b = h.size + 1 + 1) u3 h3 u3 (hset h3 (h.size + 1 + 1) 1 (.slice a' n' c')) := Step.set u3 h3 _ rfl (by rw [d2.2.2.2.1]; exact Nat.zero_le _)
      refine ⟨(i + 1, acc ++ [(termB cs vars s).getD (0, 0, [], 0)]), ?_, by simp only; omega⟩
      rw [hI]
      refine ⟨by simp [upd, e0], by simp [upd, e3], by simp [upd, e4], by simp [upd, e5], by simp [upd, e38], by simp [upd, e39], by simp [upd], hlt2, by simp [hal], ?_, u3, _, ((st.trans t2 (fun _ _ h => h)).trans s3 (fun b hb hB => by have := hne _ hB; omega)).trans s4 (fun b hb e => by omega),
        ?_, d1.step s4 (by omega), d2.set (i := 1) (by simp), ho3.step s4 (fun b hb e => by have := ho3.ge hb; omega), by rw [e_ssz]; exact hks3⟩
      · intro r hr
        rw [mapS_snoc hs] at hr
        cases hm : mapS (termB cs vars) (pa.take i) with
        | none => rw [hm] at hr; cases hr
        | some r0 =>
          rw [hm] at hr
          cases ht : termB cs vars s with
          | none => rw [ht] at hr; cases hr
          | some t => rw [ht] at hr; rw [hacc _ hm]; simpa using hr
      · have := dB.step s4 (by omega)
        rw [mapS_snoc hs]
        have e : (lost || (mapS (termB cs vars) (pa.take i)).isNone || (termB cs vars s).isNone) = (lost || ((mapS (termB cs vars) (pa.take i)).bind fun a => (termB cs vars s).map fun y => a ++ [y]).isNone) := by
          cases mapS (termB cs vars) (pa.take i) <;> cases termB cs vars s <;> simp
        rw [← e]; exact this
    · obtain rfl : i = pa.length := by omega
      rw [List.take_length] at hacc bB
      have d1 := b1.sets (l := [str x.1, av, .int .i64 0]) rfl
      obtain ⟨ava, avc, rfl, -, -⟩ := ho.sl
      simp (disch := first | omega | (simp only [e_ssz, e_psz, e_hszs, List.length_cons, List.length_nil]; try omega; done)) only [↓reduceIte, go_sem, crAtom_L1, e4, e5, e39, e40, b2.at, b1.2.1, b2.2.1, b1.2.2.1, d1.at, d1.2.1]
      have s4 : Step (fun b => b = h.size + 1) u' h' u' (hsets h' (h.size + 1) 0 [str x.1, .slice ava acc.length avc, .int .i64 0]) := Step.sets u' h' _ rfl (by rw [b1.2.2.2.1]; exact Nat.zero_le _) (by rw [b1.2.1]; exact Nat.le_refl _)
      refine hK _ _ _ (x.1, acc, 0) (st.trans s4 (fun b hb e => by omega)) ?_ (fun a0 ha => ?_) (by rw [rep_atom]; exact ⟨_, rfl, ho.isSl.mono s4.ge⟩)
      · have := bB.step s4 (by omega)
        rw [Option.isNone_map]; exact this
      · obtain ⟨r, hr, rfl⟩ := Option.map_eq_some_iff.1 ha
        rw [hacc r hr]
  · simp only [atomB, at_none (show pn < 0 ∨ (ps.length : Int) ≤ pn by omega), Option.bind_none, Option.isNone_none, Bool.or_true] at hK
    simp (disch := first | omega | (simp only [e_ssz, e_psz, e_hszs, List.length_cons, List.length_nil]; try omega; done)) only [↓reduceIte, go_sem, crAtom_S, crAtom_E, show pn < 0 ∨ (ps.length : Int) ≤ pn by omega, hB.at, hB.2.1, hB.2.2.1]
    exact hK _ _ _ ([], [], 0) (by repeat (first | exact Step.refl _ _ _ | assumption | apply Step.pushR)) (by repeat (first | assumption | apply Blk.pushR)) (fun a0 h => by cases h) (by rw [rep_atom]; exact ⟨_, rfl, .nil _ _⟩)
end Go.Proofs.Ytjkppoffffjkmaa
