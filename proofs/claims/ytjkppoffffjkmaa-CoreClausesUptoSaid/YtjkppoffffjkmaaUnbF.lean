/- The loose variables of a clause: core.Unbound and the reference. -/
import Derived.Test.YtjkppoffffjkmaaUnb
namespace Edict
theorem loose_cases (vs : Strs) : ∀ (l : List Term), (∀ t ∈ l, looseB vs t = false) ∨ ∃ (i : Nat) (t : Term), l[i]? = some t ∧ (∀ s ∈ l.take i, looseB vs s = false) ∧ looseB vs t = true
  | [] => .inl (by simp)
  | t :: l => by
    cases hb : looseB vs t with
    | true => exact .inr ⟨0, t, rfl, by simp, hb⟩
    | false =>
      rcases loose_cases vs l with h | ⟨i, s, h1, h2, h3⟩
      · exact .inl fun s hs => by
          rcases List.mem_cons.1 hs with rfl | hs
          · exact hb
          · exact h s hs
      · refine .inr ⟨i + 1, s, by simpa using h1, fun r hr => ?_, h3⟩
        rw [List.take_succ_cons] at hr
        rcases List.mem_cons.1 hr with rfl | hr
        · exact hb
        · exact h2 r hr
end Edict
namespace Go.Proofs.Ytjkppoffffjkmaa
open Go Go.Ev Edict
theorem own_empty {α : Type} [Rep α] (k : Nat) (u : U) (h : H) (hk : k ≤ h.size) (e : TypeId) : Own k (ub u h.size 0) (h.push (.cells #[] e)) (.slice (some ⟨h.size, 0, none⟩) 0 0) ([] : List α) := by
  have := Own.made (α := α) (k := k) u h hk e [] [] (by simp) (Nat.zero_le _) (fun i x hx => by simp at hx)
  simpa using this
def C_unbound (vs : List Value) (h : H) (K : Value → H → Prop) : Prop := ∃ (u : U) (c : Clause) (l : List Value), vs = [.agg l.toArray] ∧ Rep.rep u h c l ∧ Rep.bulk c ≤ 1048576 ∧ ∀ u' h', Step S0 u h u' h' → K (.int .i64 (unboundF c)) h'
def G_crUnbound : Ctr := fun f vs h K _ => (f = 23 ∧ C_lits (fun ls => ls.flatMap askL) vs h K) ∨ (f = 24 ∧ C_unb vs h K)
theorem G_crUnbound_ok : GOk Try.prog G_crUnbound := by
  rintro f vs h K KP (⟨rfl, hC⟩ | ⟨rfl, hC⟩)
  · exact crAsked_ok hC
  · exact crUnb_ok hC
theorem clause_bulk {c : Clause} (hb : Rep.bulk c ≤ 1048576) : bulkL c.2 ≤ 1048576 ∧ c.1.2.1.length ≤ 1048576 ∧ (c.2.flatMap askL).length ≤ 1048576 := by
  have h2 := flat_bulk askL_len c.2
  have h3 : Rep.bulk c = (c.1.1.length + 1 + (bulkL c.1.2.1 + 1)) + bulkL c.2 := rfl
  have h4 := bulkL_pos c.1.2.1
  omega
theorem crUnbound_ok {vs : List Value} {h : H} {K : Value → H → Prop} {KP : List PanicEntry → H → Prop} (hC : C_unbound vs h K) : HCX Try.prog 14 vs h K KP := by
  obtain ⟨u, c, l, rfl, hr, hbk, hK⟩ := hC
  obtain ⟨hb1, hb2, hb3⟩ := clause_bulk hbk
  rw [rep_clause] at hr
  obtain ⟨va, vb, rfl, hh, hb⟩ := hr
  obtain ⟨ha, hc, rfl, -, -⟩ := hh.sl
  obtain ⟨ba, bc, rfl, -, -⟩ := hb.sl
  have hm := mlen'
  refine crUnbound_H G_crUnbound G_crUnbound_ok _ ?_
  simp (disch := first | omega | (simp only [e_ssz, e_psz, e_hszs, List.length_cons, List.length_nil]; try omega; done)) only [↓reduceIte, go_sem, crUnbound_S, crUnbound_E]
  have sp : Step S0 u h _ _ := Step.push0 S0 u h #[str c.1.1, .slice ha c.1.2.1.length hc, .int .i64 c.1.2.2, .slice ba c.2.length bc] 33
  have o1 := own_empty (α := Term) (h.size + 1) (ub u h.size 0) (h.push (.cells #[str c.1.1, .slice ha c.1.2.1.length hc, .int .i64 c.1.2.2, .slice ba c.2.length bc] 33)) (by simp only [e_psz]; omega) 66
  have sp2 := Step.push0 S0 (ub u h.size 0) (h.push (.cells #[str c.1.1, .slice ha c.1.2.1.length hc, .int .i64 c.1.2.2, .slice ba c.2.length bc] 33)) #[] 66
  have B1 : Blk (ub u h.size 0) (h.push (.cells #[str c.1.1, .slice ha c.1.2.1.length hc, .int .i64 c.1.2.2, .slice ba c.2.length bc] 33)) h.size [str c.1.1, .slice ha c.1.2.1.length hc, .int .i64 c.1.2.2, .slice ba c.2.length bc] := (Blk.mk (by simp only [e_psz]; omega) (by simp (disch := first | omega | (simp only [e_ssz, e_psz, e_hszs, List.length_cons, List.length_nil]; try omega; done)) only [go_sem]) (by simp (disch := first | omega | (simp only [e_ssz, e_psz, e_hszs, List.length_cons, List.length_nil]; try omega; done)) only [go_sem]) (by repeat (first | (refine ub_at ?_; simp only []; done) | apply ub_zero)) (by simp (disch := first | omega | (simp only [e_ssz, e_psz, e_hszs, List.length_cons, List.length_nil]; try omega; done)) only [go_sem]))
  have B2 := B1.step0 sp2
  simp only [e_psz] at o1 sp2 B2
  have st2 := sp.trans0 sp2
  refine effS_app (k := h.size + 1) o1 (hh.mono st2.ge) rfl rfl (by simp only [e_psz]; omega) (by simp only [List.length_nil]; omega) fun a n k u3 h3 ho3 s3 => ?_
  have B3 := B2.step s3 (by rintro ⟨o, n', c', e⟩; simp only [Value.slice.injEq, Option.some.injEq, Addr.mk.injEq] at e; omega)
  have s3' : Step S0 u h u3 h3 := st2.trans s3 (fun b hb hB => by have := o1.ge hB; omega)
  refine ⟨by simp (disch := first | omega | (simp only [e_ssz, e_psz, e_hszs, List.length_cons, List.length_nil]; try omega; done)) only [↓reduceIte, go_sem, B2.at, B3.at, B3.2.1], ?_⟩
  simp (disch := first | omega | (simp only [e_ssz, e_psz, e_hszs, List.length_cons, List.length_nil]; try omega; done)) only [↓reduceIte, go_sem]
  refine effS_call (.inl ⟨rfl, u3, _, c.2, rfl, hb.mono s3'.ge, hb1, fun u4 h4 w s4 hw => ⟨by simp (disch := first | omega | (simp only [e_ssz, e_psz, e_hszs, List.length_cons, List.length_nil]; try omega; done)) only [go_sem], ?_⟩⟩)
  have ho4 := ho3.step0 s4
  simp (disch := first | omega | (simp only [e_ssz, e_psz, e_hszs, List.length_cons, List.length_nil]; try omega; done)) only [↓reduceIte, go_sem]
  refine effS_app ho4 hw rfl rfl (Nat.le_trans (Nat.succ_le_of_lt B3.1) s4.ge.sz) (by simp only [List.nil_append]; omega) fun a5 n5 k5 u5 h5 ho5 s5 => ⟨by simp (disch := first | omega | (simp only [e_ssz, e_psz, e_hszs, List.length_cons, List.length_nil]; try omega; done)) only [go_sem], ?_⟩
  have hlt3 : ∀ b, OwnB (.slice a n k) b → h.size + 1 ≤ b := fun b hb => ho4.ge hb
  have B5 := (B3.step0 s4).step s5 (fun hB => by have := hlt3 _ hB; omega)
  have s5' : Step S0 u h u5 h5 := (s3'.trans0 s4).trans s5 (fun b hb hB => by have := ho4.ge hB; omega)
  simp only [List.nil_append] at ho5
  simp (disch := first | omega | (simp only [e_ssz, e_psz, e_hszs, List.length_cons, List.length_nil]; try omega; done)) only [↓reduceIte, go_sem, B5.at, B5.2.1]
  have hal : (allTerms c).length ≤ 4194304 := by unfold allTerms; rw [List.length_append]; omega
  refine effS_call (.inr ⟨rfl, u5, _, _, allTerms c, c.2, rfl, ho5.isSl, hb.mono s5'.ge, hb1, hal, fun u6 h6 s6 => ⟨by simp (disch := first | omega | (simp only [e_ssz, e_psz, e_hszs, List.length_cons, List.length_nil]; try omega; done)) only [go_sem], ?_⟩⟩)
  have s6' := s5'.trans0 s6
  have hts := ho5.isSl.mono s6.ge
  rcases loose_cases (varsF c.2) (allTerms c) with hno | ⟨i, t, hi, hno, hb⟩
  · have e := looseI_none (k := 0) hno
    have hK' := hK u6 h6 s6'
    unfold unboundF at hK'
    rw [e.2] at hK'
    simp (disch := first | omega | (simp only [e_ssz, e_psz, e_hszs, List.length_cons, List.length_nil]; try omega; done)) only [↓reduceIte, go_sem, e.1]
    exact hK'
  · have e := looseI_some (k := 0) hno hi hb
    have hK' := hK u6 h6 s6'
    unfold unboundF at hK'
    rw [e.2] at hK'
    have e1 : looseI (varsF c.2) (allTerms c) 0 = (i : Int) := by rw [e.1]; omega
    obtain ⟨tb, to, rfl, htb, htu, htz, htr⟩ := hts.row i t hi
    obtain ⟨ta, tc, hta, -, -⟩ := hts.sl
    obtain ⟨-, rfl, -⟩ := Value.slice.inj hta
    rw [rep_term] at htr
    simp only [Term.enc, sz_term, hvs_4, List.cons.injEq, and_true] at htr htu htz
    obtain ⟨t0, t1, t2, t3⟩ := htr
    have hil := (List.getElem?_eq_some_iff.1 hi).1
    simp (disch := first | omega | (simp only [e_ssz, e_psz, e_hszs, List.length_cons, List.length_nil]; try omega; done)) only [↓reduceIte, go_sem, e1, t3]
    unfold allTerms at hil
    rw [List.length_append] at hil
    exact ⟨hil, hK'⟩
def C_loose (vs : List Value) (h : H) (K : Value → H → Prop) : Prop := ∃ (u : U) (t : Term) (v : Value) (l : Strs), vs = [.agg (Term.enc t).toArray, v] ∧ IsSl u h v l ∧ ∀ u' h', Step S0 u h u' h' → K (.bool (looseB l t)) h'
theorem rfLoose_ok {vs : List Value} {h : H} {K : Value → H → Prop} {KP : List PanicEntry → H → Prop} (hC : C_loose vs h K) : HCX Try.prog 25 vs h K KP := by
  obtain ⟨u, t, v, l, rfl, hl, hK⟩ := hC
  refine rfLoose_H G_rfVars G_rfVars_ok _ _ ?_
  have sp := Step.push0 S0 u h #[.int .i64 t.1, .int .i64 t.2.1, str t.2.2.1, .int .i64 t.2.2.2] 66
  by_cases hk4 : t.1 = 4
  · by_cases h95 : t.2.2.1 = [95]
    · have hb : looseB l t = true := by unfold looseB; simp [hk4, h95]
      rw [hb] at hK
      simp (disch := first | omega | (simp only [e_ssz, e_psz, e_hszs, List.length_cons, List.length_nil]; try omega; done)) only [↓reduceIte, go_sem, rfLoose_S, rfLoose_E, Term.enc, eq_true hk4, eq_true h95]
      exact hK _ _ sp
    · simp (disch := first | omega | (simp only [e_ssz, e_psz, e_hszs, List.length_cons, List.length_nil]; try omega; done)) only [↓reduceIte, go_sem, rfLoose_S, rfLoose_E, Term.enc, eq_true hk4, eq_false h95]
      refine effS_call ⟨rfl, _, _, l, t.2.2.1, rfl, hl.mono sp.ge, fun i hi => ⟨by simp (disch := first | omega | (simp only [e_ssz, e_psz, e_hszs, List.length_cons, List.length_nil]; try omega; done)) only [go_sem], ?_⟩⟩
      by_cases hin : t.2.2.1 ∈ l
      · have hb : looseB l t = false := by unfold looseB; simp [hk4, h95, hin]
        rw [hb] at hK
        simp (disch := first | omega | (simp only [e_ssz, e_psz, e_hszs, List.length_cons, List.length_nil]; try omega; done)) only [↓reduceIte, go_sem, eq_false (show ¬ i < 0 from fun h => hi.1 h hin)]
        exact hK _ _ sp
      · have hb : looseB l t = true := by unfold looseB; simp [hk4, h95, hin]
        rw [hb] at hK
        simp (disch := first | omega | (simp only [e_ssz, e_psz, e_hszs, List.length_cons, List.length_nil]; try omega; done)) only [↓reduceIte, go_sem, eq_true (hi.2 hin)]
        exact hK _ _ sp
  · have hb : looseB l t = false := by unfold looseB; simp [hk4]
    rw [hb] at hK
    by_cases h95 : t.2.2.1 = [95]
    · simp (disch := first | omega | (simp only [e_ssz, e_psz, e_hszs, List.length_cons, List.length_nil]; try omega; done)) only [↓reduceIte, go_sem, rfLoose_S, rfLoose_E, Term.enc, eq_false hk4, eq_true h95]
      exact hK _ _ sp
    · simp (disch := first | omega | (simp only [e_ssz, e_psz, e_hszs, List.length_cons, List.length_nil]; try omega; done)) only [↓reduceIte, go_sem, rfLoose_S, rfLoose_E, Term.enc, eq_false hk4, eq_false h95]
      exact hK _ _ sp
def G_rfLooseT : Ctr := fun f vs h K _ => (f = 10 ∧ C_vars vs h K) ∨ (f = 25 ∧ C_loose vs h K)
theorem G_rfLooseT_ok : GOk Try.prog G_rfLooseT := by
  rintro f vs h K KP (⟨rfl, hC⟩ | ⟨rfl, hC⟩)
  · exact rfVars_ok hC
  · exact rfLoose_ok hC
def C_looseT (vs : List Value) (h : H) (K : Value → H → Prop) : Prop := ∃ (u : U) (v w : Value) (c : Clause), vs = [v, w] ∧ IsSl u h v c.1.2.1 ∧ IsSl u h w c.2 ∧ Rep.bulk c ≤ 1048576 ∧
  ∀ u' h' (t : Term) (b : Bool), Step S0 u h u' h' → unboundF c = (if b then t.2.2.2 else -1) → K (.tuple #[.agg (Term.enc t).toArray, .bool b]) h'
theorem rfLooseT_ok {vs : List Value} {h : H} {K : Value → H → Prop} {KP : List PanicEntry → H → Prop} (hC : C_looseT vs h K) : HCX Try.prog 21 vs h K KP := by
  obtain ⟨u, v, w, ⟨⟨hp, hargs, hoff⟩, ls⟩, rfl, hh, hl, hbk, hK⟩ := hC
  obtain ⟨hb1, hb2, hb3⟩ := clause_bulk hbk
  simp only at hh hl hb1 hb2 hb3
  obtain ⟨ha, hc, rfl, -, -⟩ := hh.sl
  obtain ⟨la, lc, rfl, q1, q2⟩ := hl.sl
  have hm := mlen'
  refine rfLooseT_H G_rfLooseT G_rfLooseT_ok _ _ ?_
  simp (disch := first | omega | (simp only [e_ssz, e_psz, e_hszs, List.length_cons, List.length_nil]; try omega; done)) only [↓reduceIte, go_sem, rfLooseT_S, rfLooseT_E]
  have sp := Step.push0 S0 u h #[.int .i64 0, .int .i64 0, str [], .int .i64 0] 66
  have B0 : Blk (ub u h.size 0) (h.push (.cells #[.int .i64 0, .int .i64 0, str [], .int .i64 0] 66)) h.size [.int .i64 0, .int .i64 0, str [], .int .i64 0] := (Blk.mk (by simp only [e_psz]; omega) (by simp (disch := first | omega | (simp only [e_ssz, e_psz, e_hszs, List.length_cons, List.length_nil]; try omega; done)) only [go_sem]) (by simp (disch := first | omega | (simp only [e_ssz, e_psz, e_hszs, List.length_cons, List.length_nil]; try omega; done)) only [go_sem]) (by repeat (first | (refine ub_at ?_; simp only []; done) | apply ub_zero)) (by simp (disch := first | omega | (simp only [e_ssz, e_psz, e_hszs, List.length_cons, List.length_nil]; try omega; done)) only [go_sem]))
  refine effS_call (.inl ⟨rfl, _, _, ls, rfl, hl.mono sp.ge, hb1, fun u1 h1 w s1 hw => ⟨by simp (disch := first | omega | (simp only [e_ssz, e_psz, e_hszs, List.length_cons, List.length_nil]; try omega; done)) only [go_sem], ?_⟩⟩)
  have st1 := sp.trans0 s1
  have B1 := B0.step0 s1
  have hB1 := B1.1
  obtain ⟨vs, hvd⟩ : ∃ vs, vs = varsF ls := ⟨_, rfl⟩
  rw [← hvd] at hw
  simp (disch := first | omega | (simp only [e_ssz, e_psz, e_hszs, List.length_cons, List.length_nil]; try omega; done)) only [↓reduceIte, go_sem]
  have o1 := own_empty (α := Term) h1.size u1 h1 (Nat.le_refl _) 66
  have sp2 := Step.push0 S0 u1 h1 #[] 66
  have st2 := st1.trans0 sp2
  have B2 := B1.step0 sp2
  refine effS_app (k := h1.size) o1 (hh.mono st2.ge) rfl rfl (by simp only [e_psz]; omega) (by simp only [List.length_nil]; omega) fun a n k u3 h3 ho3 s3 => ⟨by simp (disch := first | omega | (simp only [e_ssz, e_psz, e_hszs, List.length_cons, List.length_nil]; try omega; done)) only [go_sem], ?_⟩
  have st3 : Step S0 u h u3 h3 := st2.trans s3 (fun b hb hB => by have := o1.ge hB; omega)
  have B3 := B2.step s3 (fun hB => by have := o1.ge hB; omega)
  have hw3 := hw.mono (Step.ge (S := fun b => OwnB (.slice (some ⟨h1.size, 0, none⟩) 0 0) b) ((sp2.mono (fun _ _ h => h.elim)).trans s3 (fun _ _ h => h)))
  rw [List.nil_append] at ho3
  simp (disch := first | omega | (simp only [e_ssz, e_psz, e_hszs, List.length_cons, List.length_nil]; try omega; done)) only [↓reduceIte, go_sem]
  obtain ⟨I, hI⟩ : ∃ I : Nat → Env → H → Prop, I = fun i σ h' => σ 1 = .slice la ls.length lc ∧ σ 4 = .pointer (some ⟨h.size, 0, none⟩) ∧ σ 6 = w ∧ σ 8 = .int .i64 i ∧ i ≤ ls.length ∧ ∃ u', Step S0 u h u' h' ∧ Blk u' h' h.size [.int .i64 0, .int .i64 0, str [], .int .i64 0] ∧ IsSl u' h' w vs ∧ Own (h.size + 1) u' h' (σ 7) (hargs ++ (ls.take i).flatMap askL) := ⟨_, rfl⟩
  refine wpS_loop I (fun i => ls.length - i) 0 (by rw [hI]; exact ⟨by simp [upd], by simp [upd], by simp [upd], by simp [upd], Nat.zero_le _, u3, st3, B3, hw3, by simpa [upd] using ho3.mono (by omega)⟩) ?_
  clear ho3 hw3 B3 st3 s3 B2 st2 sp2 o1 hw B1 st1 s1 B0 sp
  intro i σ h' hy
  rw [hI] at hy
  obtain ⟨e1, e4, e6, e8, hi, u', st, b0, hw, ho⟩ := hy
  have hne : ∀ b, OwnB (σ 7) b → h.size + 1 ≤ b := fun b hb => ho.ge hb
  have hk0 := b0.1
  by_cases hlt : i < ls.length
  · skip
    obtain ⟨x, hs⟩ : ∃ x, ls[i]? = some x := ⟨ls[i], by simp [hlt]⟩
    obtain ⟨pb, po, rfl, hpb, hpu, hpz, hpr⟩ := (hl.mono st.ge).row i x hs
    have hprs := hpr
    rw [rep_literal] at hpr
    obtain ⟨pv, hpr, hpv⟩ := hpr
    obtain ⟨pva, pvc, rfl, r1, r2⟩ := hpv.sl
    have hcs : hvs h' pb (po + i * Rep.sz Literal) (Rep.sz Literal) = #[.int .i64 x.1, str x.2.1.1, .slice pva x.2.1.2.1.length pvc, .int .i64 x.2.1.2.2, .int .i64 x.2.2.1, .int .i64 x.2.2.2.1.1, .int .i64 x.2.2.2.1.2.1, str x.2.2.2.1.2.2.1, .int .i64 x.2.2.2.1.2.2.2, .int .i64 x.2.2.2.2.1.1, .int .i64 x.2.2.2.2.1.2.1, str x.2.2.2.2.1.2.2.1, .int .i64 x.2.2.2.2.1.2.2.2, .int .i64 x.2.2.2.2.2].toList := by rw [hpr]; rfl
    rw [hcs] at hprs
    simp only [Term.enc, sz_literal, hvs_14, List.cons_append, List.nil_append, List.cons.injEq, and_true] at hpr hpu hpz
    obtain ⟨p0, p1, p2, p3, p4, p5, p6, p7, p8, p9, p10, p11, p12, p13⟩ := hpr
    have hfl := flat_le (f := askL) hs
    have hsn := flat_snoc (f := askL) hs
    have next : ∀ (σ' : Env) (u1 : U) (h1 : H) (S : Nat → Prop), σ' 1 = σ 1 → σ' 4 = σ 4 → σ' 6 = σ 6 → σ' 8 = .int .i64 ((i : Int) + 1) → Step S u' h' u1 h1 → (∀ b, S b → h.size + 1 ≤ b) → Own (h.size + 1) u1 h1 (σ' 7) (hargs ++ (ls.take i).flatMap askL ++ askL x) → ∃ y, I y σ' h1 ∧ ls.length - y < ls.length - i := fun σ' u1 h1 S g1 g4 g6 g8 sx hS ho' => by
      refine ⟨i + 1, ?_, by omega⟩
      rw [hI]
      exact ⟨by rw [g1, e1], by rw [g4, e4], by rw [g6, e6], g8, hlt, u1, st.trans sx (fun b hb hB => by have := hS b hB; omega), b0.step sx (fun hB => by have := hS _ hB; omega), hw.mono sx.ge, by rw [hsn, ← List.append_assoc]; exact ho'⟩
    by_cases hk : x.1 = 2
    · have htl : askL x = x.2.1.2.1 := by unfold askL; rw [if_pos hk]; rfl
      rw [htl] at hfl next
      simp (disch := first | omega | (simp only [e_ssz, e_psz, e_hszs, List.length_cons, List.length_nil]; try omega; done)) only [↓reduceIte, go_sem, rfLooseT_L1, e1, e8, hlt, p0, p2, eq_true hk]
      refine effS_app ho hpv rfl rfl (by omega) (by rw [List.length_append]; omega) fun a n k u3 h3 ho3 s3 => ⟨by simp (disch := first | omega | (simp only [e_ssz, e_psz, e_hszs, List.length_cons, List.length_nil]; try omega; done)) only [go_sem], ?_⟩
      have hcs3 := hcs
      obtain ⟨pb', po', hpe, hpb, hpu, hpz, hpr⟩ := (hl.mono (st.trans s3 (fun b hb hB => by have := hne b hB; omega)).ge).row i x hs
      cases hpe
      rw [rep_literal] at hpr
      obtain ⟨pv, hpr, -⟩ := hpr
      simp only [Term.enc, sz_literal, hvs_14, List.cons_append, List.nil_append, List.cons.injEq, and_true] at hpr hpu hpz
      obtain ⟨p0, p1, p2, p3, p4, p5, p6, p7, p8, p9, p10, p11, p12, p13⟩ := hpr
      simp (disch := first | omega | (simp only [e_ssz, e_psz, e_hszs, List.length_cons, List.length_nil]; try omega; done)) only [↓reduceIte, go_sem, e1, e8, hlt, p0, eq_false (show ¬ x.1 = 3 by omega)]
      exact next _ u3 h3 _ (by simp [upd]) (by simp [upd]) (by simp [upd]) (by simp [upd]) s3 hne (by simpa [upd] using ho3)
    by_cases hk3 : x.1 = 3
    · have htl : askL x = [x.2.2.2.1, x.2.2.2.2.1] := by unfold askL; rw [if_neg hk, if_pos hk3]
      rw [htl] at hfl next
      simp only [List.length_cons, List.length_nil] at hfl
      simp (disch := first | omega | (simp only [e_ssz, e_psz, e_hszs, List.length_cons, List.length_nil]; try omega; done)) only [↓reduceIte, go_sem, rfLooseT_L1, e1, e8, hlt, p0, p5, p6, p7, p8, p9, p10, p11, p12, eq_true hk3, eq_false (show ¬ x.1 = 2 by omega)]
      have hsl := (Own.made (k := 0) (α := Term) u' h' (Nat.zero_le _) 66 [x.2.2.2.1, x.2.2.2.2.1] (Term.enc x.2.2.2.1 ++ Term.enc x.2.2.2.2.1) rfl (by simp only [List.length_cons, List.length_nil]; decide) (fun i y hx => by
          match i with
          | 0 => cases hx; rw [rep_term]; rfl
          | 1 => cases hx; rw [rep_term]; rfl
          | i + 2 => simp at hx)).isSl
      have sp2 := Step.push S0 u' h' (Term.enc x.2.2.2.1 ++ Term.enc x.2.2.2.2.1).toArray 66 (2 * 4)
      simp only [Term.enc, List.cons_append, List.nil_append, List.length_cons, List.length_nil, Nat.zero_add, Nat.reduceAdd, Nat.reduceMul, sz_term] at hsl sp2
      refine effS_app (ho.step0 sp2) hsl rfl rfl (by simp only [e_psz]; omega) (by simp only [List.length_append, List.length_cons, List.length_nil]; omega) fun a n k u3 h3 ho3 s3 => ⟨by simp (disch := first | omega | (simp only [e_ssz, e_psz, e_hszs, List.length_cons, List.length_nil]; try omega; done)) only [go_sem], ?_⟩
      simp (disch := first | omega | (simp only [e_ssz, e_psz, e_hszs, List.length_cons, List.length_nil]; try omega; done)) only [↓reduceIte, go_sem, e8]
      exact next _ u3 h3 _ (by simp [upd]) (by simp [upd]) (by simp [upd]) (by simp [upd]) ((sp2.mono (fun _ _ h => h.elim)).trans s3 (fun _ _ h => h)) hne (by simpa [upd] using ho3)
    · have htl : askL x = [] := by unfold askL; rw [if_neg hk, if_neg hk3]
      rw [htl] at next
      simp (disch := first | omega | (simp only [e_ssz, e_psz, e_hszs, List.length_cons, List.length_nil]; try omega; done)) only [↓reduceIte, go_sem, rfLooseT_L1, e1, e8, hlt, p0, eq_false hk3, eq_false (show ¬ x.1 = 2 by omega)]
      exact next _ u' _ S0 (by simp [upd]) (by simp [upd]) (by simp [upd]) (by simp [upd]) (.refl _ _ _) (fun _ h => h.elim) (by rw [List.append_nil]; simpa [upd] using ho)
  · obtain rfl : i = ls.length := by omega
    rw [List.take_length] at ho
    have hlen : (hargs ++ ls.flatMap askL).length ≤ 4194304 := by rw [List.length_append]; omega
    have hub : unboundF ((hp, hargs, hoff), ls) = offOf vs (hargs ++ ls.flatMap askL) := by rw [hvd]; rfl
    rw [hub] at hK
    obtain ⟨ts, hts⟩ : ∃ ts, ts = hargs ++ ls.flatMap askL := ⟨_, rfl⟩
    rw [← hts] at ho hlen hK
    obtain ⟨ta, tc, hta, -, -⟩ := ho.sl
    have htl : ts.length ≤ 9223372036854775807 := by omega
    have hti := ho.isSl
    rw [hta] at hti
    simp (disch := first | omega | (simp only [e_ssz, e_psz, e_hszs, List.length_cons, List.length_nil]; try omega; done)) only [↓reduceIte, go_sem, rfLooseT_L1, e1, e8]
    obtain ⟨J, hJ⟩ : ∃ J : Nat → Env → H → Prop, J = fun j σ h' => σ 4 = .pointer (some ⟨h.size, 0, none⟩) ∧ σ 6 = w ∧ σ 7 = .slice ta ts.length tc ∧ σ 9 = .int .i64 j ∧ j ≤ ts.length ∧
        ∃ u', Step S0 u h u' h' ∧ Blk u' h' h.size [.int .i64 0, .int .i64 0, str [], .int .i64 0] ∧ IsSl u' h' w vs ∧ IsSl u' h' (.slice ta ts.length tc) ts ∧ (∀ s ∈ ts.take j, looseB vs s = false) := ⟨_, rfl⟩
    refine wpS_loop J (fun j => ts.length - j) 0 (by
      rw [hJ]
      exact ⟨by simp [upd, e4], by simp [upd, e6], by simp [upd, hta], by simp [upd], Nat.zero_le _, u', st, b0, hw, hti, by simp⟩) ?_
    clear hI I e1 e4 e6 e8 hw st b0 hti hta ho hk0
    intro j σ1 h2 hy
    rw [hJ] at hy
    obtain ⟨e4, e6, e7, e9, hj, u2, st, b0, hw, ht, hno⟩ := hy
    have hk0 := b0.1
    by_cases hlt : j < ts.length
    · obtain ⟨t, hs⟩ : ∃ t, ts[j]? = some t := ⟨ts[j], by simp [hlt]⟩
      obtain ⟨tb, to, rfl, htb, htu, htz, htr⟩ := ht.row j t hs
      rw [rep_term] at htr
      simp only [Term.enc, sz_term, hvs_4, List.cons.injEq, and_true] at htr htu htz
      obtain ⟨t0, t1, t2, t3⟩ := htr
      simp (disch := first | omega | (simp only [e_ssz, e_psz, e_hszs, List.length_cons, List.length_nil]; try omega; done)) only [↓reduceIte, go_sem, rfLooseT_L2, e6, e7, e9, hlt, t0, t1, t2, t3]
      refine effS_call (.inr ⟨rfl, u2, t, _, vs, rfl, hw, fun u3 h3 s3 => ⟨by simp (disch := first | omega | (simp only [e_ssz, e_psz, e_hszs, List.length_cons, List.length_nil]; try omega; done)) only [go_sem], ?_⟩⟩)
      have st3 := st.trans0 s3
      have ht3 := ht.mono s3.ge
      have b3 := b0.step0 s3
      have hk3 := b3.1
      cases hb : looseB vs t with
      | true =>
        obtain ⟨tb', to', hpe, htb, htu, htz, htr⟩ := ht3.row j t hs
        cases hpe
        rw [rep_term] at htr
        simp only [Term.enc, sz_term, hvs_4, List.cons.injEq, and_true] at htr htu htz
        obtain ⟨t0, t1, t2, t3⟩ := htr
        have b4 := b3.sets (l := [.int .i64 t.1, .int .i64 t.2.1, str t.2.2.1, .int .i64 t.2.2.2]) rfl
        have s4 := Step.setsR (l := [.int .i64 t.1, .int .i64 t.2.1, str t.2.2.1, .int .i64 t.2.2.2]) (o := 0) st3 (.inl (Nat.le_refl _)) (by rw [b3.2.2.2.1]; exact Nat.le_refl _) (by rw [b3.2.1]; exact Nat.le_refl _)
        have e := (looseI_some (k := 0) hno hs hb).2
        have hK' := hK u3 _ t true s4 (by rw [if_pos rfl]; exact e)
        simp (disch := first | omega | (simp only [e_ssz, e_psz, e_hszs, List.length_cons, List.length_nil]; try omega; done)) only [↓reduceIte, go_sem, e4, e7, e9, hlt, t0, t1, t2, t3, b3.2.1, b3.2.2.1, b4.at, b4.2.1]
        exact hK'
      | false =>
        simp (disch := first | omega | (simp only [e_ssz, e_psz, e_hszs, List.length_cons, List.length_nil]; try omega; done)) only [↓reduceIte, go_sem, e9]
        refine ⟨j + 1, ?_, by omega⟩
        rw [hJ]
        exact ⟨by simp [upd, e4], by simp [upd, e6], by simp [upd, e7], by simp [upd], hlt, u3, st3, b3, hw.mono s3.ge, ht3, none_upto hno hs hb⟩
    · obtain rfl : j = ts.length := by omega
      rw [List.take_length] at hno
      have b4 := b0.sets (l := [.int .i64 0, .int .i64 0, str [], .int .i64 0]) rfl
      have s4 := Step.setsR (l := [.int .i64 0, .int .i64 0, str [], .int .i64 0]) (o := 0) st (.inl (Nat.le_refl _)) (by rw [b0.2.2.2.1]; exact Nat.le_refl _) (by rw [b0.2.1]; exact Nat.le_refl _)
      have hK' := hK u2 _ (0, 0, [], 0) false s4 (by simp only [Bool.false_eq_true, if_false]; exact (looseI_none (k := 0) hno).2)
      simp (disch := first | omega | (simp only [e_ssz, e_psz, e_hszs, List.length_cons, List.length_nil]; try omega; done)) only [↓reduceIte, go_sem, rfLooseT_L2, e4, e7, e9, b0.2.1, b0.2.2.1, b4.at, b4.2.1]
      exact hK'
def G_rfUnbound : Ctr := fun f vs h K _ => f = 21 ∧ C_looseT vs h K
theorem G_rfUnbound_ok : GOk Try.prog G_rfUnbound := by
  rintro f vs h K KP ⟨rfl, hC⟩; exact rfLooseT_ok hC
theorem rfUnbound_ok {vs : List Value} {h : H} {K : Value → H → Prop} {KP : List PanicEntry → H → Prop} (hC : C_unbound vs h K) : HCX Try.prog 11 vs h K KP := by
  obtain ⟨u, c, l, rfl, hr, hbk, hK⟩ := hC
  rw [rep_clause] at hr
  obtain ⟨va, vb, rfl, hh, hb⟩ := hr
  obtain ⟨ha, hc, rfl, -, -⟩ := hh.sl
  obtain ⟨ba, bc, rfl, -, -⟩ := hb.sl
  refine rfUnbound_H G_rfUnbound G_rfUnbound_ok _ ?_
  simp (disch := first | omega | (simp only [e_ssz, e_psz, e_hszs, List.length_cons, List.length_nil]; try omega; done)) only [↓reduceIte, go_sem, rfUnbound_S, rfUnbound_E]
  have sp : Step S0 u h _ _ := Step.push0 S0 u h #[str c.1.1, .slice ha c.1.2.1.length hc, .int .i64 c.1.2.2, .slice ba c.2.length bc] 33
  refine effS_call ⟨rfl, _, _, _, c, rfl, hh.mono sp.ge, hb.mono sp.ge, hbk, fun u2 h2 t b s2 he => ⟨by simp (disch := first | omega | (simp only [e_ssz, e_psz, e_hszs, List.length_cons, List.length_nil]; try omega; done)) only [go_sem], ?_⟩⟩
  have st2 := sp.trans0 s2
  cases b with
  | true =>
    rw [if_pos rfl] at he
    rw [he] at hK
    simp (disch := first | omega | (simp only [e_ssz, e_psz, e_hszs, List.length_cons, List.length_nil]; try omega; done)) only [↓reduceIte, go_sem, Term.enc]
    exact hK _ _ (st2.trans0 (Step.push0 S0 u2 h2 _ _))
  | false =>
    simp only [Bool.false_eq_true, if_false] at he
    rw [he] at hK
    simp (disch := first | omega | (simp only [e_ssz, e_psz, e_hszs, List.length_cons, List.length_nil]; try omega; done)) only [↓reduceIte, go_sem, Term.enc]
    exact hK _ _ (st2.trans0 (Step.push0 S0 u2 h2 _ _))
def C_names (vs : List Value) (h : H) (K : Value → H → Prop) : Prop := ∃ (u : U) (v w : Value) (l : Strs), vs = [v, w] ∧ IsSl u h v l ∧ IsSl u h w l ∧ K (.bool true) h
theorem lwNames_ok {vs : List Value} {h : H} {K : Value → H → Prop} {KP : List PanicEntry → H → Prop} (hC : C_names vs h K) : HCX Try.prog 13 vs h K KP := by
  obtain ⟨u, v, w, l, rfl, ha, hb, hK⟩ := hC
  obtain ⟨aa, ac, rfl, q1, q2⟩ := ha.sl
  obtain ⟨ba, bc, rfl, -, -⟩ := hb.sl
  have hm := mlen'
  refine lwNames_H (fun _ _ _ _ _ => False) (fun _ _ _ _ _ h => h.elim) _ _ ?_
  simp (disch := first | omega | (simp only [e_ssz, e_psz, e_hszs, List.length_cons, List.length_nil]; try omega; done)) only [↓reduceIte, go_sem, lwNames_S, lwNames_E]
  obtain ⟨I, hI⟩ : ∃ I : Nat → Env → H → Prop, I = fun i σ h' => σ 0 = .slice aa l.length ac ∧ σ 1 = .slice ba l.length bc ∧ σ 5 = .int .i64 i ∧ i ≤ l.length ∧ h' = h := ⟨_, rfl⟩
  refine wpS_loop I (fun i => l.length - i) 0 (by rw [hI]; exact ⟨by simp [upd], by simp [upd], by simp [upd], Nat.zero_le _, rfl⟩) ?_
  intro i σ h' hy
  rw [hI] at hy
  obtain ⟨e0, e1, e5, hi, rfl⟩ := hy
  by_cases hlt : i < l.length
  · obtain ⟨x, hs⟩ : ∃ x, l[i]? = some x := ⟨l[i], by simp [hlt]⟩
    obtain ⟨pb, po, rfl, hpb, hpu, hpz, hpr⟩ := ha.row i x hs
    obtain ⟨qb, qo, rfl, hqb, hqu, hqz, hqr⟩ := hb.row i x hs
    simp only [rep_str, sz_str, hvs_1, List.cons.injEq, and_true] at hpr hpu hpz hqr hqu hqz
    simp (disch := first | omega | (simp only [e_ssz, e_psz, e_hszs, List.length_cons, List.length_nil]; try omega; done)) only [↓reduceIte, go_sem, lwNames_L1, e0, e1, e5, hlt, hpr, hqr]
    refine ⟨i + 1, ?_, by omega⟩
    rw [hI]
    exact ⟨by simp [upd, e0], by simp [upd, e1], by simp [upd], hlt, rfl⟩
  · obtain rfl : i = l.length := by omega
    simp (disch := first | omega | (simp only [e_ssz, e_psz, e_hszs, List.length_cons, List.length_nil]; try omega; done)) only [↓reduceIte, go_sem, lwNames_L1, e0, e5]
    exact hK
end Go.Proofs.Ytjkppoffffjkmaa
