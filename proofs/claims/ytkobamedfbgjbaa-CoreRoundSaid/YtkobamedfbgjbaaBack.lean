/- Rules, patterns, slots back into names: core.Back, core.Fact, and the reference's. -/
import Derived.Test.YtkobamedfbgjbaaBackS
import Derived.Test.YtkobamedfbgjbaaEvE
namespace Edict
def at? {α : Type} (l : List α) (i : Int) : Option α := if 0 ≤ i then l[i.toNat]? else none
theorem at_none {α : Type} {l : List α} {i : Int} (h : i < 0 ∨ (l.length : Int) ≤ i) : at? l i = none := by
  unfold at?; split
  · rw [List.getElem?_eq_none]; omega
  · rfl
theorem at_some {α : Type} {l : List α} {i : Int} (h0 : 0 ≤ i) (h1 : i < l.length) : ∃ x, at? l i = some x ∧ l[i.toNat]? = some x := by
  unfold at?; rw [if_pos h0]
  exact ⟨l[i.toNat]'(by omega), by simp, by simp⟩
def termB (cs : List Const) (vars : List (List UInt8)) (s : Slot) : Option Term :=
  if s.1 then (at? vars s.2).map fun v => (4, 0, v, 0) else (at? cs s.2).map fun k => (k.1, k.2.1, k.2.2, 0)
def mapS {α β : Type} (f : α → Option β) : List α → Option (List β)
  | [] => some []
  | x :: l => (f x).bind fun y => (mapS f l).map (y :: ·)
theorem mapS_append {α β : Type} (f : α → Option β) : ∀ (l m : List α), mapS f (l ++ m) = (mapS f l).bind fun a => (mapS f m).map (a ++ ·)
  | [], m => by simp [mapS]
  | x :: l, m => by
    simp only [List.cons_append, mapS, mapS_append f l m]
    cases f x <;> simp
    cases mapS f l <;> simp [Function.comp_def]
theorem mapS_snoc {α β : Type} {f : α → Option β} {l : List α} {i : Nat} {x : α} (hx : l[i]? = some x) : mapS f (l.take (i + 1)) = (mapS f (l.take i)).bind fun a => (f x).map fun y => a ++ [y] := by
  rw [List.take_add_one, hx, Option.toList_some, mapS_append]
  simp only [mapS]
  cases mapS f (l.take i) <;> simp
  cases f x <;> simp
theorem mapS_none {α β : Type} {f : α → Option β} {l : List α} {i : Nat} (h : mapS f (l.take i) = none) : mapS f l = none := by
  rw [← List.take_append_drop i l, mapS_append, h]; rfl
theorem mapS_len {α β : Type} {f : α → Option β} : ∀ {l : List α} {r : List β}, mapS f l = some r → r.length = l.length
  | [], r, h => by cases h; rfl
  | x :: l, r, h => by
    simp only [mapS, Option.bind_eq_some_iff, Option.map_eq_some_iff] at h
    obtain ⟨y, _, a, ha, rfl⟩ := h
    simp [mapS_len ha]
def atomB (ps : List Pred) (cs : List Const) (vars : List (List UInt8)) (p : Pattern) : Option Atom := (at? ps p.1).bind fun pr => (mapS (termB cs vars) p.2).map fun l => (pr.1, l, 0)
end Edict
namespace Go.Proofs.Ytkobamedfbgjbaa
open Go Go.Ev Edict

def C_crTerm (vs : List Value) (h : H) (K : Value → H → Prop) : Prop :=
  ∃ (u : U) (b : Nat) (vp vc vr vf vv : Value) (lost : Bool) (cs : List Const) (vars : List (List UInt8)) (s : Slot), vs = [.pointer (some ⟨b, 0, none⟩), .agg #[.bool s.1, .int .i64 s.2]] ∧ Blk u h b [vp, vc, vr, vf, vv, .bool lost] ∧ IsSl u h vc cs ∧ IsSl u h vv vars ∧
    ∀ u' h', Step (fun i => i = b) u h u' h' → Blk u' h' b [vp, vc, vr, vf, vv, .bool (lost || (termB cs vars s).isNone)] → K (.agg (Term.enc ((termB cs vars s).getD (0, 0, [], 0))).toArray) h'
theorem crTerm_ok {vs : List Value} {h : H} {K : Value → H → Prop} {KP : List PanicEntry → H → Prop} (hC : C_crTerm vs h K) : HCX Try.prog 40 vs h K KP := by
  obtain ⟨u, B, vp, vc, vr, vf, vv, lost, cs, vars, ⟨sv, sn⟩, rfl, hB, hc, hv, hK⟩ := hC
  refine crTerm_H (fun _ _ _ _ _ => False) (fun _ _ _ _ _ h => h.elim) _ _ ?_
  obtain ⟨ca, cc, rfl, -, -⟩ := hc.sl
  obtain ⟨va, vc', rfl, -, -⟩ := hv.sl
  have hBl : B < h.size := hB.1
  have s1 : Step (fun i => i = B) u h u (hset h B 5 (.bool true)) := Step.set u h _ rfl (by rw [hB.2.2.2.1]; exact Nat.zero_le _)
  have hB1 : Blk u (hset h B 5 (.bool true)) B [vp, .slice ca cs.length cc, vr, vf, .slice va vars.length vc', .bool true] := hB.set (i := 5) (by simp)
  cases sv with
  | true =>
    by_cases hx : 0 ≤ sn ∧ sn < vars.length
    · obtain ⟨n, rfl⟩ := Int.eq_ofNat_of_zero_le hx.1
      obtain ⟨x, hx1, hx2⟩ := at_some hx.1 hx.2
      obtain ⟨b, o, rfl, hb, hu, hz, hr⟩ := hv.row n x hx2
      simp only [rep_str, sz_str, hvs_1, List.cons.injEq, and_true] at hr hu hz
      have hz' : o + n * 1 < hsz h b := by omega
      have hlt : n < vars.length := by omega
      simp only [termB, hx1, if_true, Option.map_some, Option.isNone_some, Bool.or_false] at hK
      simp (disch := first | omega | (simp only [zz]; try omega; done)) only [↓reduceIte, go_sem, crTerm_S, crTerm_E, Nat.not_le.2 hlt, hr, hz', hlt, hB.at, hB.2.1]
      exact hK _ _ (by repeat (first | exact Step.refl _ _ _ | assumption | apply Step.pushR)) (by repeat (first | assumption | apply Blk.pushR))
    · simp only [termB, at_none (show sn < 0 ∨ (vars.length : Int) ≤ sn by omega), if_true, Option.map_none, Option.isNone_none, Bool.or_true] at hK
      simp (disch := first | omega | (simp only [zz]; try omega; done)) only [↓reduceIte, go_sem, crTerm_S, crTerm_E, show sn < 0 ∨ (vars.length : Int) ≤ sn by omega, hB.at, hB.2.1, hB.2.2.1]
      exact hK _ _ (by repeat (first | exact Step.refl _ _ _ | assumption | apply Step.pushR)) (by repeat (first | assumption | apply Blk.pushR))
  | false =>
    by_cases hx : 0 ≤ sn ∧ sn < cs.length
    · obtain ⟨n, rfl⟩ := Int.eq_ofNat_of_zero_le hx.1
      obtain ⟨x, hx1, hx2⟩ := at_some hx.1 hx.2
      obtain ⟨b, o, rfl, hb, hu, hz, hr⟩ := hc.row n x hx2
      simp only [rep_const, sz_const, hvs_3, List.cons.injEq, and_true] at hr hu hz
      have hlt : n < cs.length := by omega
      simp only [termB, hx1, if_false, Option.map_some, Bool.false_eq_true, Option.isNone_some, Bool.or_false] at hK
      simp (disch := first | omega | (simp only [zz]; try omega; done)) only [↓reduceIte, go_sem, crTerm_S, crTerm_E, Nat.not_le.2 hlt, hr.1, hr.2.1, hr.2.2, hlt, hz, hB.at, hB.2.1]
      exact hK _ _ (by repeat (first | exact Step.refl _ _ _ | assumption | apply Step.pushR)) (by repeat (first | assumption | apply Blk.pushR))
    · simp only [termB, at_none (show sn < 0 ∨ (cs.length : Int) ≤ sn by omega), if_false, Option.map_none, Bool.false_eq_true, Option.isNone_none, Bool.or_true] at hK
      simp (disch := first | omega | (simp only [zz]; try omega; done)) only [↓reduceIte, go_sem, crTerm_S, crTerm_E, show sn < 0 ∨ (cs.length : Int) ≤ sn by omega, hB.at, hB.2.1, hB.2.2.1]
      exact hK _ _ (by repeat (first | exact Step.refl _ _ _ | assumption | apply Step.pushR)) (by repeat (first | assumption | apply Blk.pushR))

def C_crAtom (vs : List Value) (h : H) (K : Value → H → Prop) : Prop :=
  ∃ (u : U) (b : Nat) (vp vc vr vf vv pv : Value) (lost : Bool) (ps : List Pred) (cs : List Const) (vars : List (List UInt8)) (p : Pattern), vs = [.pointer (some ⟨b, 0, none⟩), .agg #[.int .i64 p.1, pv]] ∧ Blk u h b [vp, vc, vr, vf, vv, .bool lost] ∧
    IsSl u h vp ps ∧ IsSl u h vc cs ∧ IsSl u h vv vars ∧ IsSl u h pv p.2 ∧ p.2.length ≤ 1048576 ∧
    ∀ u' h' l a, Step (fun i => i = b) u h u' h' → Blk u' h' b [vp, vc, vr, vf, vv, .bool (lost || (atomB ps cs vars p).isNone)] → (∀ a0, atomB ps cs vars p = some a0 → a = a0) → Rep.rep u' h' a l → K (.agg l.toArray) h'
def G_crAtom : Ctr := fun f vs h K _ => f = 40 ∧ C_crTerm vs h K
theorem G_crAtom_ok : GOk Try.prog G_crAtom := by
  rintro f vs h K KP ⟨rfl, hC⟩; exact crTerm_ok hC
theorem crAtom_ok {vs : List Value} {h : H} {K : Value → H → Prop} {KP : List PanicEntry → H → Prop} (hC : C_crAtom vs h K) : HCX Try.prog 39 vs h K KP := by
  obtain ⟨u, B, vp, vc, vr, vf, vv, pv, lost, ps, cs, vars, ⟨pn, pa⟩, rfl, hB, hp, hc, hv, hpa, hlen, hK⟩ := hC
  replace hlen : pa.length ≤ 1048576 := hlen
  replace hpa : IsSl u h pv pa := hpa
  refine crAtom_H G_crAtom G_crAtom_ok _ _ ?_
  obtain ⟨psa, psc, rfl, -, -⟩ := hp.sl
  obtain ⟨paa, pac, rfl, -, -⟩ := hpa.sl
  have hBl : B < h.size := hB.1
  have s1 : Step (fun i => i = B) u h u (hset h B 5 (.bool true)) := Step.set u h _ rfl (by rw [hB.2.2.2.1]; exact Nat.zero_le _)
  have hB1 : Blk u (hset h B 5 (.bool true)) B [.slice psa ps.length psc, vc, vr, vf, vv, .bool true] := hB.set (i := 5) (by simp)
  by_cases hx : 0 ≤ pn ∧ pn < ps.length
  · obtain ⟨n, rfl⟩ := Int.eq_ofNat_of_zero_le hx.1
    obtain ⟨x, hx1, hx2⟩ := at_some hx.1 hx.2
    obtain ⟨b, o, rfl, hb, hu, hz, hr⟩ := hp.row n x hx2
    simp only [rep_pred, sz_pred, hvs_2, List.cons.injEq, and_true] at hr hu hz
    have hlt : n < ps.length := by omega
    have hz1 : o + n * 2 < hsz h b := by omega
    simp only [atomB, hx1, Option.bind_some] at hK
    simp (disch := first | omega | (simp only [zz]; try omega; done)) only [↓reduceIte, go_sem, crAtom_S, crAtom_E, Nat.not_le.2 hlt, hr.1, hlt, hz1, hB.at, hB.2.1]
    obtain ⟨I, hI⟩ : ∃ I : (Nat × List Term) → Env → H → Prop, I = fun y σ h' => σ 0 = .pointer (some ⟨B, 0, none⟩) ∧ σ 3 = .pointer (some ⟨h.size, 0, none⟩) ∧ σ 4 = .pointer (some ⟨h.size + 1, 0, none⟩) ∧ σ 5 = .pointer (some ⟨h.size + 1 + 1, 0, none⟩) ∧
        σ 38 = .slice paa pa.length pac ∧ σ 39 = .int .i64 pa.length ∧ σ 40 = .int .i64 y.1 ∧ y.1 ≤ pa.length ∧ y.2.length = y.1 ∧ (∀ r, mapS (termB cs vars) (pa.take y.1) = some r → y.2 = r) ∧
        ∃ u' av, Step (fun i => i = B) u h u' h' ∧ Blk u' h' B [.slice (some ⟨b, o, none⟩) ps.length psc, vc, vr, vf, vv, .bool (lost || (mapS (termB cs vars) (pa.take y.1)).isNone)] ∧
        Blk u' h' (h.size + 1) [str [], .slice none 0 0, .int .i64 0] ∧ Blk u' h' (h.size + 1 + 1) [str x.1, av, .int .i64 0] ∧ Own (h.size + 3) u' h' av y.2 ∧ h.size + 3 ≤ h'.size := ⟨_, rfl⟩
    refine wpS_loop I (fun y => pa.length - y.1) (0, []) (by
      rw [hI]
      exact ⟨by simp [upd], by simp [upd], by simp [upd], by simp [upd], by simp [upd], by simp [upd], by simp [upd], by simp, rfl, fun r hr => by simpa [mapS] using hr, _, .slice none 0 0, (by repeat (first | exact Step.refl _ _ _ | assumption | apply Step.pushR)), by simp only [List.take_zero, mapS, Option.isNone_some, Bool.or_false]; exact (by repeat (first | assumption | apply Blk.pushR)), (Blk.mk (by simp only [e_psz]; omega) (by simp (disch := first | omega | (simp only [zz]; try omega; done)) only [go_sem]) (by simp (disch := first | omega | (simp only [zz]; try omega; done)) only [go_sem]) (by repeat (first | (refine ub_at ?_; simp only [e_psz]; done) | apply ub_zero)) (by simp (disch := first | omega | (simp only [zz]; try omega; done)) only [go_sem])), (Blk.mk (by simp only [e_psz]; omega) (by simp (disch := first | omega | (simp only [zz]; try omega; done)) only [go_sem]) (by simp (disch := first | omega | (simp only [zz]; try omega; done)) only [go_sem]) (by repeat (first | (refine ub_at ?_; simp only [e_psz]; done) | apply ub_zero)) (by simp (disch := first | omega | (simp only [zz]; try omega; done)) only [go_sem])), .nil _ _ _, by simp only [e_psz]; omega⟩) ?_
    intro ⟨i, acc⟩ σ h' hy
    rw [hI] at hy
    obtain ⟨e0, e3, e4, e5, e38, e39, e40, hi, hal, hacc, u', av, st, bB, b1, b2, ho, hks⟩ := hy
    simp only at e40 hi hacc hal ho bB
    have hBl' : B < h'.size := bB.1
    by_cases hlt2 : i < pa.length
    · obtain ⟨s, hs⟩ : ∃ s, pa[i]? = some s := ⟨pa[i], by simp [hlt2]⟩
      obtain ⟨pb, po, rfl, hpb, hpu, hpz, hpr⟩ := (hpa.mono st.ge).row i s hs
      simp only [rep_slot, sz_slot, hvs_2, List.cons.injEq, and_true] at hpr hpu hpz
      have hz1 : po + i * 2 + 1 < hsz h' pb := by omega
      have hz2 : po + i * 2 < hsz h' pb := by omega
      have hz3 : po + i * 2 + 2 ≤ hsz h' pb := by omega
      simp (disch := first | omega | (simp only [zz]; try omega; done)) only [↓reduceIte, go_sem, crAtom_L1, e0, e5, e38, e39, e40, b2.at, b2.2.1, hlt2, hpr.1, hpr.2, hz3]
      have sp := Step.push S0 u' h' #[.bool s.1, .int .i64 s.2] 116 0
      refine effS_call ⟨rfl, ub u' h'.size 0, B, _, _, _, _, _, _, cs, vars, s, rfl, bB.step0 sp, (hc.mono st.ge).mono sp.ge, (hv.mono st.ge).mono sp.ge, fun u2 h2 s2 cB => ?_⟩
      have t2 : Step (fun i => i = B) u' h' u2 h2 := (sp.mono (fun _ _ h => h.elim)).trans s2 (fun _ _ h => h)
      have c1 := b1.step t2 (by omega)
      have c2 := b2.step t2 (by omega)
      have ho2 := ho.step t2 (fun b hb e => by have := ho.ge hb; omega)
      have hks2 : h.size + 3 ≤ h2.size := Nat.le_trans hks t2.ge.sz
      simp (disch := first | omega | (simp only [zz]; try omega; done)) only [↓reduceIte, go_sem, e5, b2.at, c2.at, c2.2.1, Term.enc]
      refine effS_app1 ho2 (x := (termB cs vars s).getD (0, 0, [], 0)) (by rw [rep_term]; rfl) rfl rfl hks2 (by omega) fun a' n' c' u3 h3 ho3 s3 => ⟨by simp (disch := first | omega | (simp only [zz]; try omega; done)) only [go_sem], ?_⟩
      have hne : ∀ b, OwnB av b → h.size + 3 ≤ b := fun b hb => ho2.ge hb
      have dB := cB.step s3 (fun hB => by have := hne _ hB; omega)
      have d1 := c1.step s3 (fun hB => by have := hne _ hB; omega)
      have d2 := c2.step s3 (fun hB => by have := hne _ hB; omega)
      have hks3 : h.size + 3 ≤ h3.size := Nat.le_trans hks2 s3.ge.sz
      simp (disch := first | omega | (simp only [zz]; try omega; done)) only [↓reduceIte, go_sem, e5, e40, d2.2.1, d2.2.2.1]
      have s4 : Step (fun b => b = h.size + 1 + 1) u3 h3 u3 (hset h3 (h.size + 1 + 1) 1 (.slice a' n' c')) := Step.set u3 h3 _ rfl (by rw [d2.2.2.2.1]; exact Nat.zero_le _)
      refine ⟨(i + 1, acc ++ [(termB cs vars s).getD (0, 0, [], 0)]), ?_, by simp only; omega⟩
      rw [hI]
      refine ⟨by simp [upd, e0], by simp [upd, e3], by simp [upd, e4], by simp [upd, e5], by simp [upd, e38], by simp [upd, e39], by simp [upd], hlt2, by simp [hal], ?_, u3, _, ((st.trans t2 (fun _ _ h => h)).trans s3 (fun b hb hB => by have := hne _ hB; omega)).trans s4 (fun b hb e => by omega),
        ?_, d1.step s4 (by omega), d2.set (i := 1) (by simp), ho3.step s4 (fun b hb e => by have := ho3.ge hb; omega), by rw [e_ssz]; exact hks3⟩
      · intro r hr
        rw [mapS_snoc hs] at hr
        cases hm : mapS (termB cs vars) (pa.take i) with
        | none => rw [hm] at hr; cases hr
        | some r0 =>
          rw [hm] at hr
          cases ht : termB cs vars s with
          | none => rw [ht] at hr; cases hr
          | some t => rw [ht] at hr; rw [hacc _ hm]; simpa using hr
      · have := dB.step s4 (by omega)
        rw [mapS_snoc hs]
        have e : (lost || (mapS (termB cs vars) (pa.take i)).isNone || (termB cs vars s).isNone) = (lost || ((mapS (termB cs vars) (pa.take i)).bind fun a => (termB cs vars s).map fun y => a ++ [y]).isNone) := by
          cases mapS (termB cs vars) (pa.take i) <;> cases termB cs vars s <;> simp
        rw [← e]; exact this
    · obtain rfl : i = pa.length := by omega
      rw [List.take_length] at hacc bB
      have d1 := b1.sets (l := [str x.1, av, .int .i64 0]) rfl
      obtain ⟨ava, avc, rfl, -, -⟩ := ho.sl
      simp (disch := first | omega | (simp only [zz]; try omega; done)) only [↓reduceIte, go_sem, crAtom_L1, e4, e5, e39, e40, b2.at, b1.2.1, b2.2.1, b1.2.2.1, d1.at, d1.2.1]
      have s4 : Step (fun b => b = h.size + 1) u' h' u' (hsets h' (h.size + 1) 0 [str x.1, .slice ava acc.length avc, .int .i64 0]) := Step.sets u' h' _ rfl (by rw [b1.2.2.2.1]; exact Nat.zero_le _) (by rw [b1.2.1]; exact Nat.le_refl _)
      refine hK _ _ _ (x.1, acc, 0) (st.trans s4 (fun b hb e => by omega)) ?_ (fun a0 ha => ?_) (by rw [rep_atom]; exact ⟨_, rfl, ho.isSl.mono s4.ge⟩)
      · have := bB.step s4 (by omega)
        rw [Option.isNone_map]; exact this
      · obtain ⟨r, hr, rfl⟩ := Option.map_eq_some_iff.1 ha
        rw [hacc r hr]
  · simp only [atomB, at_none (show pn < 0 ∨ (ps.length : Int) ≤ pn by omega), Option.bind_none, Option.isNone_none, Bool.or_true] at hK
    simp (disch := first | omega | (simp only [zz]; try omega; done)) only [↓reduceIte, go_sem, crAtom_S, crAtom_E, show pn < 0 ∨ (ps.length : Int) ≤ pn by omega, hB.at, hB.2.1, hB.2.2.1]
    exact hK _ _ _ ([], [], 0) (by repeat (first | exact Step.refl _ _ _ | assumption | apply Step.pushR)) (by repeat (first | assumption | apply Blk.pushR)) (fun a0 h => by cases h) (by rw [rep_atom]; exact ⟨_, rfl, .nil _ _⟩)
end Go.Proofs.Ytkobamedfbgjbaa
