/- The law of Back and Fact: both sides give the same data, and the same data compare as the same. -/
import Derived.Test.YtjkppoffffjkmaaBackF
namespace Go.Proofs.Ytjkppoffffjkmaa
open Go Go.Ev Edict
theorem mlen : maxLen = 9223372036854775807 := rfl
def C_lwAtoms (vs : List Value) (h : H) (K : Value → H → Prop) : Prop :=
  ∃ (u : U) (a : Atom) (la lb : List Value), vs = [.agg la.toArray, .agg lb.toArray] ∧ Rep.rep u h a la ∧ Rep.rep u h a lb ∧ ∀ u' h', Step S0 u h u' h' → K (.bool true) h'
theorem lwAtoms_ok {vs : List Value} {h : H} {K : Value → H → Prop} {KP : List PanicEntry → H → Prop} (hC : C_lwAtoms vs h K) : HCX Try.prog 19 vs h K KP := by
  obtain ⟨u, a, la, lb, rfl, ha, hb, hK⟩ := hC
  rw [rep_atom] at ha hb
  obtain ⟨va, rfl, ha⟩ := ha
  obtain ⟨vb, rfl, hb⟩ := hb
  obtain ⟨aa, ac, rfl, a1, a2⟩ := ha.sl
  obtain ⟨ba, bc, rfl, -, -⟩ := hb.sl
  have hm := mlen
  refine lwAtoms_H (fun _ _ _ _ _ => False) (fun _ _ _ _ _ h => h.elim) _ _ ?_
  simp (disch := first | omega | (simp only [e_ssz, e_psz, e_hszs, List.length_cons, List.length_nil]; try omega; done)) only [↓reduceIte, go_sem, lwAtoms_S, lwAtoms_E]
  obtain ⟨I, hI⟩ : ∃ I : Nat → Env → H → Prop, I = fun i σ h' => σ 2 = .pointer (some ⟨h.size, 0, none⟩) ∧ σ 3 = .pointer (some ⟨h.size + 1, 0, none⟩) ∧ σ 5 = .int .i64 i ∧ i ≤ a.2.1.length ∧
      ∃ u', Step S0 u h u' h' ∧ Blk u' h' h.size [str a.1, .slice aa a.2.1.length ac, .int .i64 a.2.2] ∧ Blk u' h' (h.size + 1) [str a.1, .slice ba a.2.1.length bc, .int .i64 a.2.2] := ⟨_, rfl⟩
  refine wpS_loop I (fun i => a.2.1.length - i) 0 (by
    rw [hI]
    exact ⟨by simp [upd], by simp [upd], by simp [upd], Nat.zero_le _, _, (by repeat (first | exact Step.refl _ _ _ | assumption | apply Step.pushR)), (Blk.mk (by simp only [e_psz]; omega) (by simp (disch := first | omega | (simp only [e_ssz, e_psz, e_hszs, List.length_cons, List.length_nil]; try omega; done)) only [go_sem]) (by simp (disch := first | omega | (simp only [e_ssz, e_psz, e_hszs, List.length_cons, List.length_nil]; try omega; done)) only [go_sem]) (by repeat (first | (refine ub_at ?_; simp only [e_psz]; done) | apply ub_zero)) (by simp (disch := first | omega | (simp only [e_ssz, e_psz, e_hszs, List.length_cons, List.length_nil]; try omega; done)) only [go_sem])), (Blk.mk (by simp only [e_psz]; omega) (by simp (disch := first | omega | (simp only [e_ssz, e_psz, e_hszs, List.length_cons, List.length_nil]; try omega; done)) only [go_sem]) (by simp (disch := first | omega | (simp only [e_ssz, e_psz, e_hszs, List.length_cons, List.length_nil]; try omega; done)) only [go_sem]) (by repeat (first | (refine ub_at ?_; simp only [e_psz]; done) | apply ub_zero)) (by simp (disch := first | omega | (simp only [e_ssz, e_psz, e_hszs, List.length_cons, List.length_nil]; try omega; done)) only [go_sem]))⟩) ?_
  intro i σ h' hy
  rw [hI] at hy
  obtain ⟨e2, e3, e5, hi, u', st, b0, b1⟩ := hy
  by_cases hlt : i < a.2.1.length
  · obtain ⟨x, hs⟩ : ∃ x, a.2.1[i]? = some x := ⟨a.2.1[i], by simp [hlt]⟩
    obtain ⟨pb, po, rfl, hpb, hpu, hpz, hpr⟩ := (ha.mono st.ge).row i x hs
    obtain ⟨qb, qo, rfl, hqb, hqu, hqz, hqr⟩ := (hb.mono st.ge).row i x hs
    simp only [rep_term, Term.enc, sz_term, hvs_4, List.cons.injEq, and_true] at hpr hpu hpz hqr hqu hqz
    simp (disch := first | omega | (simp only [e_ssz, e_psz, e_hszs, List.length_cons, List.length_nil]; try omega; done)) only [↓reduceIte, go_sem, lwAtoms_L1, e2, e3, e5, b0.at, b1.at, b0.2.1, b1.2.1, hlt, hpr.1, hpr.2.1, hpr.2.2.1, hpr.2.2.2, hqr.1, hqr.2.1, hqr.2.2.1, hqr.2.2.2]
    refine ⟨i + 1, ?_, by omega⟩
    rw [hI]
    exact ⟨by simp [upd, e2], by simp [upd, e3], by simp [upd], hlt, u', st, b0, b1⟩
  · obtain rfl : i = a.2.1.length := by omega
    simp (disch := first | omega | (simp only [e_ssz, e_psz, e_hszs, List.length_cons, List.length_nil]; try omega; done)) only [↓reduceIte, go_sem, lwAtoms_L1, e2, e5, b0.at, b0.2.1]
    exact hK _ _ st
def C_lwClauses (vs : List Value) (h : H) (K : Value → H → Prop) : Prop :=
  ∃ (u : U) (a : Clause) (la lb : List Value), vs = [.agg la.toArray, .agg lb.toArray] ∧ Rep.rep u h a la ∧ Rep.rep u h a lb ∧ ∀ u' h', Step S0 u h u' h' → K (.bool true) h'
def G_lwClauses : Ctr := fun f vs h K _ => f = 19 ∧ C_lwAtoms vs h K
theorem G_lwClauses_ok : GOk Try.prog G_lwClauses := by
  rintro f vs h K KP ⟨rfl, hC⟩; exact lwAtoms_ok hC
theorem lwClauses_ok {vs : List Value} {h : H} {K : Value → H → Prop} {KP : List PanicEntry → H → Prop} (hC : C_lwClauses vs h K) : HCX Try.prog 7 vs h K KP := by
  obtain ⟨u, a, la, lb, rfl, ha, hb, hK⟩ := hC
  rw [rep_clause] at ha hb
  obtain ⟨va, wa, rfl, ha, hc⟩ := ha
  obtain ⟨vb, wb, rfl, hb, hd⟩ := hb
  obtain ⟨aa, ac, rfl, -, -⟩ := ha.sl
  obtain ⟨ba, bc, rfl, -, -⟩ := hb.sl
  obtain ⟨ca, cc, rfl, a1, a2⟩ := hc.sl
  obtain ⟨da, dc, rfl, -, -⟩ := hd.sl
  have hm := mlen
  refine lwClauses_H G_lwClauses G_lwClauses_ok _ _ ?_
  simp (disch := first | omega | (simp only [e_ssz, e_psz, e_hszs, List.length_cons, List.length_nil]; try omega; done)) only [↓reduceIte, go_sem, lwClauses_S, lwClauses_E]
  refine effS_call ⟨rfl, _, a.1, _, _, rfl, by rw [rep_atom]; exact ⟨_, rfl, ha.mono (Step.ge (S := S0) (by repeat (first | exact Step.refl _ _ _ | assumption | apply Step.pushR)))⟩, by rw [rep_atom]; exact ⟨_, rfl, hb.mono (Step.ge (S := S0) (by repeat (first | exact Step.refl _ _ _ | assumption | apply Step.pushR)))⟩, fun u2 h2 s2 => ⟨by simp (disch := first | omega | (simp only [e_ssz, e_psz, e_hszs, List.length_cons, List.length_nil]; try omega; done)) only [go_sem], ?_⟩⟩
  have s02 : Step S0 u h u2 h2 := Step.trans0 (by repeat (first | exact Step.refl _ _ _ | assumption | apply Step.pushR)) s2
  have B0 : Blk u2 h2 h.size [str a.1.1, .slice aa a.1.2.1.length ac, .int .i64 a.1.2.2, .slice ca a.2.length cc] := Blk.step0 (Blk.mk (by simp only [e_psz]; omega) (by simp (disch := first | omega | (simp only [e_ssz, e_psz, e_hszs, List.length_cons, List.length_nil]; try omega; done)) only [go_sem]) (by simp (disch := first | omega | (simp only [e_ssz, e_psz, e_hszs, List.length_cons, List.length_nil]; try omega; done)) only [go_sem]) (by repeat (first | (refine ub_at ?_; simp only [e_psz]; done) | apply ub_zero)) (by simp (disch := first | omega | (simp only [e_ssz, e_psz, e_hszs, List.length_cons, List.length_nil]; try omega; done)) only [go_sem])) s2
  have B1 : Blk u2 h2 (h.size + 1) [str a.1.1, .slice ba a.1.2.1.length bc, .int .i64 a.1.2.2, .slice da a.2.length dc] := Blk.step0 (Blk.mk (by simp only [e_psz]; omega) (by simp (disch := first | omega | (simp only [e_ssz, e_psz, e_hszs, List.length_cons, List.length_nil]; try omega; done)) only [go_sem]) (by simp (disch := first | omega | (simp only [e_ssz, e_psz, e_hszs, List.length_cons, List.length_nil]; try omega; done)) only [go_sem]) (by repeat (first | (refine ub_at ?_; simp only [e_psz]; done) | apply ub_zero)) (by simp (disch := first | omega | (simp only [e_ssz, e_psz, e_hszs, List.length_cons, List.length_nil]; try omega; done)) only [go_sem])) s2
  simp (disch := first | omega | (simp only [e_ssz, e_psz, e_hszs, List.length_cons, List.length_nil]; try omega; done)) only [↓reduceIte, go_sem, B0.at, B1.at, B0.2.1, B1.2.1]
  obtain ⟨I, hI⟩ : ∃ I : Nat → Env → H → Prop, I = fun i σ h' => σ 2 = .pointer (some ⟨h.size, 0, none⟩) ∧ σ 3 = .pointer (some ⟨h.size + 1, 0, none⟩) ∧ σ 5 = .int .i64 i ∧ i ≤ a.2.length ∧
      ∃ u', Step S0 u h u' h' ∧ Blk u' h' h.size [str a.1.1, .slice aa a.1.2.1.length ac, .int .i64 a.1.2.2, .slice ca a.2.length cc] ∧ Blk u' h' (h.size + 1) [str a.1.1, .slice ba a.1.2.1.length bc, .int .i64 a.1.2.2, .slice da a.2.length dc] := ⟨_, rfl⟩
  refine wpS_loop I (fun i => a.2.length - i) 0 (by
    rw [hI]
    exact ⟨by simp [upd], by simp [upd], by simp [upd], Nat.zero_le _, _, s02, B0, B1⟩) ?_
  intro i σ h' hy
  rw [hI] at hy
  obtain ⟨e2, e3, e5, hi, u', st, b0, b1⟩ := hy
  by_cases hlt : i < a.2.length
  · obtain ⟨x, hs⟩ : ∃ x, a.2[i]? = some x := ⟨a.2[i], by simp [hlt]⟩
    obtain ⟨pb, po, rfl, hpb, hpu, hpz, hpr⟩ := (hc.mono st.ge).row i x hs
    obtain ⟨qb, qo, rfl, hqb, hqu, hqz, hqr⟩ := (hd.mono st.ge).row i x hs
    rw [rep_literal] at hpr hqr
    obtain ⟨pv, hpr, hpv⟩ := hpr
    obtain ⟨qv, hqr, hqv⟩ := hqr
    obtain ⟨pva, pvc, rfl, -, -⟩ := hpv.sl
    obtain ⟨qva, qvc, rfl, -, -⟩ := hqv.sl
    simp only [Term.enc, sz_literal, hvs_14, List.cons_append, List.nil_append, List.cons.injEq, and_true] at hpr hpu hpz hqr hqu hqz
    obtain ⟨p0, p1, p2, p3, p4, p5, p6, p7, p8, p9, p10, p11, p12, p13⟩ := hpr
    obtain ⟨q0, q1, q2, q3, q4, q5, q6, q7, q8, q9, q10, q11, q12, q13⟩ := hqr
    have b0l := b0.1
    have b1l := b1.1
    simp (disch := first | omega | (simp only [e_ssz, e_psz, e_hszs, List.length_cons, List.length_nil]; try omega; done)) only [↓reduceIte, go_sem, lwClauses_L1, e2, e3, e5, b0.at, b1.at, b0.2.1, b1.2.1, hlt, p0, p1, p2, p3, p4, p5, p6, p7, p8, p9, p10, p11, p12, p13, q0, q1, q2, q3, q4, q5, q6, q7, q8, q9, q10, q11, q12, q13]
    refine effS_call ⟨rfl, _, x.2.1, _, _, rfl, by rw [rep_atom]; exact ⟨_, rfl, hpv.mono (Step.ge (S := S0) (by repeat (first | exact Step.refl _ _ _ | assumption | apply Step.pushR)))⟩, by rw [rep_atom]; exact ⟨_, rfl, hqv.mono (Step.ge (S := S0) (by repeat (first | exact Step.refl _ _ _ | assumption | apply Step.pushR)))⟩, fun u3 h3 s3 => ⟨by simp (disch := first | omega | (simp only [e_ssz, e_psz, e_hszs, List.length_cons, List.length_nil]; try omega; done)) only [go_sem], ?_⟩⟩
    have s13 : Step S0 u' h' u3 h3 := Step.trans0 (by repeat (first | exact Step.refl _ _ _ | assumption | apply Step.pushR)) s3
    simp (disch := first | omega | (simp only [e_ssz, e_psz, e_hszs, List.length_cons, List.length_nil]; try omega; done)) only [↓reduceIte, go_sem, e5]
    refine ⟨i + 1, ?_, by omega⟩
    rw [hI]
    exact ⟨by simp [upd, e2], by simp [upd, e3], by simp [upd], hlt, u3, st.trans0 s13, b0.step0 s13, b1.step0 s13⟩
  · obtain rfl : i = a.2.length := by omega
    simp (disch := first | omega | (simp only [e_ssz, e_psz, e_hszs, List.length_cons, List.length_nil]; try omega; done)) only [↓reduceIte, go_sem, lwClauses_L1, e2, e5, b0.at, b0.2.1]
    exact hK _ _ st
def G_CoreBacks : Ctr := fun f vs h K _ => (f = 5 ∧ C_back vs h K) ∨ (f = 6 ∧ C_back vs h K) ∨ (f = 7 ∧ C_lwClauses vs h K) ∨ (f = 8 ∧ C_fact vs h K) ∨ (f = 9 ∧ C_fact vs h K)
theorem G_CoreBacks_ok : GOk Try.prog G_CoreBacks := by
  rintro f vs h K KP (⟨rfl, hC⟩ | ⟨rfl, hC⟩ | ⟨rfl, hC⟩ | ⟨rfl, hC⟩ | ⟨rfl, hC⟩)
  · exact crBack_ok hC
  · exact rfBack_ok hC
  · exact lwClauses_ok hC
  · exact crFact_ok hC
  · exact rfFact_ok hC
theorem CoreBacks_hc {u : U} {h : H} {c0 c1 c2 c3 rv : Value} {ps : List Pred} {cs : List Const} {rules : List Rule} {rows : List Row} (hp : IsSl u h c0 ps) (hc : IsSl u h c1 cs) (hr : IsSl u h c2 rules) (hl : IsSl u h rv rows)
    (hbr : bulkL rules ≤ 1048576) (hbl : bulkL rows ≤ 1048576) : HCX Try.prog 3 [.agg #[c0, c1, c2, c3], rv] h (fun v h' => v = .bool true ∧ Ext h h') fun _ _ => False := by
  have hbk : ∀ r ∈ rules, Rep.bulk r ≤ 1048576 := fun r hr => Nat.le_trans (bulkL_mem hr) hbr
  have hrl := bulkL_pos rules
  have hll := bulkL_pos rows
  obtain ⟨ra, rc, rfl, -, -⟩ := hr.sl
  obtain ⟨la, lc, rfl, -, -⟩ := hl.sl
  obtain ⟨pa0, pn0, rfl, -, -⟩ := hp.sl
  obtain ⟨ca0, cn0, rfl, -, -⟩ := hc.sl
  refine lwBacks_H G_CoreBacks G_CoreBacks_ok _ _ ?_
  simp (disch := first | omega | (simp only [e_ssz, e_psz, e_hszs, List.length_cons, List.length_nil]; try omega; done)) only [↓reduceIte, go_sem, lwBacks_S, lwBacks_E]
  obtain ⟨I1, hI1⟩ : ∃ I : Nat → Env → H → Prop, I = fun i σ h' => σ 1 = .slice la rows.length lc ∧ σ 2 = .pointer (some ⟨h.size, 0, none⟩) ∧ σ 5 = .int .i64 ((i : Int) - 1) ∧ i ≤ rules.length + 2 ∧
      ∃ u', Step S0 u h u' h' ∧ Blk u' h' h.size [.slice pa0 ps.length pn0, .slice ca0 cs.length cn0, .slice ra rules.length rc, c3] := ⟨_, rfl⟩
  refine wpS_loop I1 (fun i => rules.length + 2 - i) 0 (by
    rw [hI1]
    exact ⟨by simp [upd], by simp [upd], by simp [upd], Nat.zero_le _, _, (by repeat (first | exact Step.refl _ _ _ | assumption | apply Step.pushR)), (Blk.mk (by simp only [e_psz]; omega) (by simp (disch := first | omega | (simp only [e_ssz, e_psz, e_hszs, List.length_cons, List.length_nil]; try omega; done)) only [go_sem]) (by simp (disch := first | omega | (simp only [e_ssz, e_psz, e_hszs, List.length_cons, List.length_nil]; try omega; done)) only [go_sem]) (by repeat (first | (refine ub_at ?_; simp only []; done) | apply ub_zero)) (by simp (disch := first | omega | (simp only [e_ssz, e_psz, e_hszs, List.length_cons, List.length_nil]; try omega; done)) only [go_sem]))⟩) ?_
  intro i σ h' hy
  rw [hI1] at hy
  obtain ⟨e1, e2, e5, hi, u', st, b0⟩ := hy
  by_cases hlt : i ≤ rules.length + 1
  · have b0l := b0.1
    simp (disch := first | omega | (simp only [e_ssz, e_psz, e_hszs, List.length_cons, List.length_nil]; try omega; done)) only [↓reduceIte, go_sem, lwBacks_L1, e2, e5, b0.at, b0.2.1, eq_true (show (i : Int) - 1 ≤ rules.length by omega)]
    refine effS_call (.inl ⟨rfl, _, _, _, _, _, _, ps, cs, rules, rfl, hp.mono st.ge, hc.mono st.ge, hr.mono st.ge, hbk, fun u2 h2 l s2 hl2 => ⟨by simp (disch := first | omega | (simp only [e_ssz, e_psz, e_hszs, List.length_cons, List.length_nil]; try omega; done)) only [go_sem], ?_⟩⟩)
    obtain ⟨res, hres⟩ : ∃ res, res = backB ps cs rules ((i : Int) - 1) := ⟨_, rfl⟩
    rw [← hres] at hl2
    obtain ⟨hl2c, v2, w2, rfl, i2, j2⟩ := (⟨hl2, by rw [rep_clause] at hl2; exact hl2⟩ : _ ∧ _)
    obtain ⟨va2, vc2, rfl, -, -⟩ := i2.sl
    obtain ⟨wa2, wc2, rfl, -, -⟩ := j2.sl
    have st2 := st.trans0 s2
    have c0 := b0.step0 s2
    have c0l := c0.1
    simp (disch := first | omega | (simp only [e_ssz, e_psz, e_hszs, List.length_cons, List.length_nil]; try omega; done)) only [↓reduceIte, go_sem, ← hres, e2, e5, c0.at, c0.2.1]
    refine effS_call (.inr (.inl ⟨rfl, _, _, _, _, _, _, ps, cs, rules, rfl, hp.mono (Step.ge (S := S0) (by repeat (first | exact Step.refl _ _ _ | assumption | apply Step.pushR))), hc.mono (Step.ge (S := S0) (by repeat (first | exact Step.refl _ _ _ | assumption | apply Step.pushR))), hr.mono (Step.ge (S := S0) (by repeat (first | exact Step.refl _ _ _ | assumption | apply Step.pushR))), hbk, fun u3 h3 l s3 hl3 => ⟨by simp (disch := first | omega | (simp only [e_ssz, e_psz, e_hszs, List.length_cons, List.length_nil]; try omega; done)) only [go_sem], ?_⟩⟩))
    rw [← hres] at hl3
    obtain ⟨hl3c, v3, w3, rfl, i3, j3⟩ := (⟨hl3, by rw [rep_clause] at hl3; exact hl3⟩ : _ ∧ _)
    obtain ⟨va3, vc3, rfl, -, -⟩ := i3.sl
    obtain ⟨wa3, wc3, rfl, -, -⟩ := j3.sl
    have s23 : Step S0 u2 h2 u3 h3 := Step.trans0 (by repeat (first | exact Step.refl _ _ _ | assumption | apply Step.pushR)) s3
    have b6 : Blk u3 h3 h2.size [str res.1.1.1, .slice va2 res.1.1.2.1.length vc2, .int .i64 res.1.1.2.2, .slice wa2 res.1.2.length wc2] := Blk.step0 (Blk.mk (by simp only [e_psz]; omega) (by simp (disch := first | omega | (simp only [e_ssz, e_psz, e_hszs, List.length_cons, List.length_nil]; try omega; done)) only [go_sem]) (by simp (disch := first | omega | (simp only [e_ssz, e_psz, e_hszs, List.length_cons, List.length_nil]; try omega; done)) only [go_sem]) (by repeat (first | (refine ub_at ?_; simp only []; done) | apply ub_zero)) (by simp (disch := first | omega | (simp only [e_ssz, e_psz, e_hszs, List.length_cons, List.length_nil]; try omega; done)) only [go_sem])) s3
    have b6l := b6.1
    simp (disch := first | omega | (simp only [e_ssz, e_psz, e_hszs, List.length_cons, List.length_nil]; try omega; done)) only [↓reduceIte, go_sem, ← hres, b6.at, b6.2.1]
    refine effS_call (.inr (.inr (.inl ⟨rfl, _, res.1, _, _, rfl, Rep.mono (Step.ge (S := S0) (by repeat (first | exact Step.refl _ _ _ | assumption | apply Step.pushR))) (Rep.mono s23.ge hl2c), Rep.mono (Step.ge (S := S0) (by repeat (first | exact Step.refl _ _ _ | assumption | apply Step.pushR))) hl3c, fun u4 h4 s4 => ⟨by simp (disch := first | omega | (simp only [e_ssz, e_psz, e_hszs, List.length_cons, List.length_nil]; try omega; done)) only [go_sem], ?_⟩⟩)))
    have s34 : Step S0 u3 h3 u4 h4 := Step.trans0 (by repeat (first | exact Step.refl _ _ _ | assumption | apply Step.pushR)) s4
    simp (disch := first | omega | (simp only [e_ssz, e_psz, e_hszs, List.length_cons, List.length_nil]; try omega; done)) only [↓reduceIte, go_sem, e5]
    refine ⟨i + 1, ?_, by omega⟩
    rw [hI1]
    exact ⟨by simp [upd, e1], by simp [upd, e2], by simp [upd], by omega, u4, (st2.trans0 s23).trans0 s34, (c0.step0 s23).step0 s34⟩
  · obtain rfl : i = rules.length + 2 := by omega
    simp (disch := first | omega | (simp only [e_ssz, e_psz, e_hszs, List.length_cons, List.length_nil]; try omega; done)) only [↓reduceIte, go_sem, lwBacks_L1, e2, e5, b0.at, b0.2.1, eq_false (show ¬ ((rules.length + 2 : Nat) : Int) - 1 ≤ rules.length by omega)]
    clear hI1 I1
    obtain ⟨I2, hI2⟩ : ∃ I : Nat → Env → H → Prop, I = fun i σ h' => σ 1 = .slice la rows.length lc ∧ σ 2 = .pointer (some ⟨h.size, 0, none⟩) ∧ σ 10 = .int .i64 i ∧ i ≤ rows.length ∧
        ∃ u', Step S0 u h u' h' ∧ Blk u' h' h.size [.slice pa0 ps.length pn0, .slice ca0 cs.length cn0, .slice ra rules.length rc, c3] := ⟨_, rfl⟩
    refine wpS_loop I2 (fun i => rows.length - i) 0 (by
      rw [hI2]
      exact ⟨by simp [upd, e1], by simp [upd, e2], by simp [upd], Nat.zero_le _, _, st, b0⟩) ?_
    clear e1 e2 e5 hi st b0
    intro i σ h' hy
    rw [hI2] at hy
    obtain ⟨e1, e2, e10, hi, u', st, b0⟩ := hy
    by_cases hlt : i < rows.length
    · obtain ⟨x, hs⟩ : ∃ x, rows[i]? = some x := ⟨rows[i], by simp [hlt]⟩
      have hxl : x.2.length ≤ 1048576 := by
        have := bulkL_mem (List.mem_of_getElem? hs)
        simp only [bulk_prod, bulk_list] at this
        have := bulkL_pos x.2
        omega
      obtain ⟨pb, po, rfl, hpb, hpu, hpz, hpr⟩ := (hl.mono st.ge).row i x hs
      rw [rep_row] at hpr
      obtain ⟨pv, hpr, hpv⟩ := hpr
      obtain ⟨pva, pvc, rfl, -, -⟩ := hpv.sl
      simp only [sz_row] at hpr hpu hpz
      have hpr0 := hpr
      simp only [hvs_2, List.cons.injEq, and_true] at hpr0
      obtain ⟨r0, r1⟩ := hpr0
      have hz1 : po + i * 2 + 2 ≤ hsz h' pb := by omega
      have b0l := b0.1
      simp (disch := first | omega | (simp only [e_ssz, e_psz, e_hszs, List.length_cons, List.length_nil]; try omega; done)) only [↓reduceIte, go_sem, lwBacks_L2, e1, e10, hlt]
      refine w_join (fun σ' h2 => keepE σ σ' [1, 2, 10] ∧ ∃ u2 p v, Step S0 u' h' u2 h2 ∧ σ' 11 = .pointer (some ⟨p, 0, none⟩) ∧ h'.size ≤ p ∧ Blk u2 h2 p [str (factB ps cs x).1.1, v] ∧ IsSl u2 h2 v (factB ps cs x).1.2 ∧ σ' 12 = .int .i64 (factB ps cs x).2) ?_ ?_
      · simp (disch := first | omega | (simp only [e_ssz, e_psz, e_hszs, List.length_cons, List.length_nil]; try omega; done)) only [↓reduceIte, go_sem, w_both, e1, e2, e10, b0.at, b0.2.1, hlt, r0, r1]
        refine ⟨effS_call (.inr (.inr (.inr (.inl ⟨rfl, u', _, _, _, _, _, ps, cs, x, rfl, hp.mono st.ge, hc.mono st.ge, hpv, hxl, fun u2 h2 l s2 hl2 => ?_⟩)))), effS_call (.inr (.inr (.inr (.inl ⟨rfl, ub u' h'.size 0, _, _, _, _, _, ps, cs, x, rfl, (hp.mono st.ge).mono (Step.push S0 _ _ _ _ 0).ge, (hc.mono st.ge).mono (Step.push S0 _ _ _ _ 0).ge, (hpv).mono (Step.push S0 _ _ _ _ 0).ge, hxl, fun u2 h2 l s2 hl2 => ?_⟩))))⟩
        · rw [rep_fact] at hl2
          obtain ⟨v, rfl, hv2⟩ := hl2
          obtain ⟨va, vc, rfl, -, -⟩ := hv2.sl
          have := s2.ge.sz
          simp (disch := first | omega | (simp only [e_ssz, e_psz, e_hszs, List.length_cons, List.length_nil]; try omega; done)) only [↓reduceIte, go_sem, e1, e2, e10]
          exact ⟨_, (by repeat (first | exact Step.refl _ _ _ | assumption | apply Step.pushR)), this, .slice va (factB ps cs x).1.2.length vc, (Blk.mk (by simp only [e_psz]; omega) (by simp (disch := first | omega | (simp only [e_ssz, e_psz, e_hszs, List.length_cons, List.length_nil]; try omega; done)) only [go_sem]) (by simp (disch := first | omega | (simp only [e_ssz, e_psz, e_hszs, List.length_cons, List.length_nil]; try omega; done)) only [go_sem]) (by repeat (first | (refine ub_at ?_; simp only []; done) | apply ub_zero)) (by simp (disch := first | omega | (simp only [e_ssz, e_psz, e_hszs, List.length_cons, List.length_nil]; try omega; done)) only [go_sem])), hv2.mono (Step.ge (S := S0) (by repeat (first | exact Step.refl _ _ _ | assumption | apply Step.pushR)))⟩
        · rw [rep_fact] at hl2
          obtain ⟨v, rfl, hv2⟩ := hl2
          obtain ⟨va, vc, rfl, -, -⟩ := hv2.sl
          have b5 : Blk (ub u' h'.size 0) (h'.push (.cells #[str [], .slice none 0 0] 39)) h'.size [str [], .slice none 0 0] := (Blk.mk (by simp only [e_psz]; omega) (by simp (disch := first | omega | (simp only [e_ssz, e_psz, e_hszs, List.length_cons, List.length_nil]; try omega; done)) only [go_sem]) (by simp (disch := first | omega | (simp only [e_ssz, e_psz, e_hszs, List.length_cons, List.length_nil]; try omega; done)) only [go_sem]) (by repeat (first | (refine ub_at ?_; simp only []; done) | apply ub_zero)) (by simp (disch := first | omega | (simp only [e_ssz, e_psz, e_hszs, List.length_cons, List.length_nil]; try omega; done)) only [go_sem]))
          have b6 := b5.step0 s2
          simp (disch := first | omega | (simp only [e_ssz, e_psz, e_hszs, List.length_cons, List.length_nil]; try omega; done)) only [↓reduceIte, go_sem, e1, e2, e10, b6.2.1, b6.2.2.1]
          have s9 : Step (fun i => i = h'.size) u2 h2 u2 (hsets h2 h'.size 0 [str (factB ps cs x).1.1, .slice va (factB ps cs x).1.2.length vc]) := Step.sets u2 h2 _ rfl (by rw [b6.2.2.2.1]; exact Nat.le_refl _) (by rw [b6.2.1]; exact Nat.le_refl _)
          exact ⟨u2, ((Step.push0 S0 u' h' _ _).trans0 s2).trans s9 (fun i hi e => by omega), Nat.le_refl _, _, b6.sets rfl, hv2.mono s9.ge⟩
      · rintro σ1 h2 ⟨hkE, u2, p, v, s2, e11, hp2, b11, hv2, e12⟩
        simp (disch := first | omega | (simp only [e_ssz, e_psz, e_hszs, List.length_cons, List.length_nil]; try omega; done)) only [go_sem, e1, e2, e10] at hkE
        obtain ⟨k1, k2, k10⟩ := hkE
        obtain ⟨va, vc, rfl, -, -⟩ := hv2.sl
        have c0 := b0.step0 s2
        have c0l := c0.1
        have b11l := b11.1
        have st2 := st.trans0 s2
        have hpb2 : pb < h2.size := Nat.lt_of_lt_of_le hpb s2.ge.sz
        have hpr2 := hpr
        rw [← hvs_ge s2.ge hpb hpu] at hpr2
        simp only [hvs_2, List.cons.injEq, and_true] at hpr2
        obtain ⟨r0, r1⟩ := hpr2
        have hz2 : po + i * 2 + 2 ≤ hsz h2 pb := by rw [(s2.ge.hs pb hpb).1]; exact hz1
        simp (disch := first | omega | (simp only [e_ssz, e_psz, e_hszs, List.length_cons, List.length_nil]; try omega; done)) only [go_sem]
        refine w_join (fun σ' h3 => keepE σ1 σ' [1, 2, 10, 11, 12] ∧ ∃ u3 p v, Step S0 u2 h2 u3 h3 ∧ σ' 13 = .pointer (some ⟨p, 0, none⟩) ∧ h2.size ≤ p ∧ Blk u3 h3 p [str (factB ps cs x).1.1, v] ∧ IsSl u3 h3 v (factB ps cs x).1.2 ∧ σ' 14 = .int .i64 (factB ps cs x).2) ?_ ?_
        · simp (disch := first | omega | (simp only [e_ssz, e_psz, e_hszs, List.length_cons, List.length_nil]; try omega; done)) only [↓reduceIte, go_sem, w_both, k1, k2, k10, e11, e12, c0.at, c0.2.1, hlt, r0, r1]
          refine ⟨effS_call (.inr (.inr (.inr (.inr ⟨rfl, u2, _, _, _, _, _, ps, cs, x, rfl, hp.mono st2.ge, hc.mono st2.ge, hpv.mono s2.ge, hxl, fun u3 h3 l s3 hl2 => ?_⟩)))), effS_call (.inr (.inr (.inr (.inr ⟨rfl, ub u2 h2.size 0, _, _, _, _, _, ps, cs, x, rfl, (hp.mono st2.ge).mono (Step.push S0 _ _ _ _ 0).ge, (hc.mono st2.ge).mono (Step.push S0 _ _ _ _ 0).ge, (hpv.mono s2.ge).mono (Step.push S0 _ _ _ _ 0).ge, hxl, fun u3 h3 l s3 hl2 => ?_⟩))))⟩
          · rw [rep_fact] at hl2
            obtain ⟨v, rfl, hv2⟩ := hl2
            obtain ⟨va, vc, rfl, -, -⟩ := hv2.sl
            have := s3.ge.sz
            simp (disch := first | omega | (simp only [e_ssz, e_psz, e_hszs, List.length_cons, List.length_nil]; try omega; done)) only [↓reduceIte, go_sem, k1, k2, k10, e11, e12]
            exact ⟨_, (by repeat (first | exact Step.refl _ _ _ | assumption | apply Step.pushR)), this, .slice va (factB ps cs x).1.2.length vc, (Blk.mk (by simp only [e_psz]; omega) (by simp (disch := first | omega | (simp only [e_ssz, e_psz, e_hszs, List.length_cons, List.length_nil]; try omega; done)) only [go_sem]) (by simp (disch := first | omega | (simp only [e_ssz, e_psz, e_hszs, List.length_cons, List.length_nil]; try omega; done)) only [go_sem]) (by repeat (first | (refine ub_at ?_; simp only []; done) | apply ub_zero)) (by simp (disch := first | omega | (simp only [e_ssz, e_psz, e_hszs, List.length_cons, List.length_nil]; try omega; done)) only [go_sem])), hv2.mono (Step.ge (S := S0) (by repeat (first | exact Step.refl _ _ _ | assumption | apply Step.pushR)))⟩
          · rw [rep_fact] at hl2
            obtain ⟨v, rfl, hv2⟩ := hl2
            obtain ⟨va, vc, rfl, -, -⟩ := hv2.sl
            have b5 : Blk (ub u2 h2.size 0) (h2.push (.cells #[str [], .slice none 0 0] 39)) h2.size [str [], .slice none 0 0] := (Blk.mk (by simp only [e_psz]; omega) (by simp (disch := first | omega | (simp only [e_ssz, e_psz, e_hszs, List.length_cons, List.length_nil]; try omega; done)) only [go_sem]) (by simp (disch := first | omega | (simp only [e_ssz, e_psz, e_hszs, List.length_cons, List.length_nil]; try omega; done)) only [go_sem]) (by repeat (first | (refine ub_at ?_; simp only []; done) | apply ub_zero)) (by simp (disch := first | omega | (simp only [e_ssz, e_psz, e_hszs, List.length_cons, List.length_nil]; try omega; done)) only [go_sem]))
            have b6 := b5.step0 s3
            simp (disch := first | omega | (simp only [e_ssz, e_psz, e_hszs, List.length_cons, List.length_nil]; try omega; done)) only [↓reduceIte, go_sem, k1, k2, k10, e11, e12, b6.2.1, b6.2.2.1]
            have s9 : Step (fun i => i = h2.size) u3 h3 u3 (hsets h3 h2.size 0 [str (factB ps cs x).1.1, .slice va (factB ps cs x).1.2.length vc]) := Step.sets u3 h3 _ rfl (by rw [b6.2.2.2.1]; exact Nat.le_refl _) (by rw [b6.2.1]; exact Nat.le_refl _)
            exact ⟨u3, ((Step.push0 S0 u2 h2 _ _).trans0 s3).trans s9 (fun i hi e => by omega), Nat.le_refl _, _, b6.sets rfl, hv2.mono s9.ge⟩
        · rintro σ2 h3 ⟨hkE, u3, q, w, s3, e13, hq2, b13, hw2, e14⟩
          simp (disch := first | omega | (simp only [e_ssz, e_psz, e_hszs, List.length_cons, List.length_nil]; try omega; done)) only [go_sem, k1, k2, k10, e11, e12] at hkE
          obtain ⟨l1, l2, l10, l11, l12⟩ := hkE
          obtain ⟨wa, wc, rfl, w1, w2⟩ := hw2.sl
          have hm := mlen
          have c11 := b11.step0 s3
          have hv3 := hv2.mono s3.ge
          simp (disch := first | omega | (simp only [e_ssz, e_psz, e_hszs, List.length_cons, List.length_nil]; try omega; done)) only [↓reduceIte, go_sem, l11, l12, e13, e14, c11.at, c11.2.1, b13.at, b13.2.1]
          obtain ⟨I3, hI3⟩ : ∃ I : Nat → Env → H → Prop, I = fun j σ h' => σ 1 = .slice (some ⟨pb, po, none⟩) rows.length lc ∧ σ 2 = .pointer (some ⟨h.size, 0, none⟩) ∧ σ 10 = .int .i64 i ∧ σ 11 = .pointer (some ⟨p, 0, none⟩) ∧ σ 13 = .pointer (some ⟨q, 0, none⟩) ∧ σ 15 = .int .i64 j ∧ j ≤ (factB ps cs x).1.2.length ∧ h' = h3 := ⟨_, rfl⟩
          refine wpS_loop I3 (fun j => (factB ps cs x).1.2.length - j) 0 (by
            rw [hI3]
            exact ⟨by simp [upd, l1], by simp [upd, l2], by simp [upd, l10], by simp [upd, l11], by simp [upd, e13], by simp [upd], Nat.zero_le _, rfl⟩) ?_
          intro j σ3 h4 hy
          rw [hI3] at hy
          obtain ⟨m1, m2, m10, m11, m13, m15, hj, rfl⟩ := hy
          by_cases hlt3 : j < (factB ps cs x).1.2.length
          · obtain ⟨k, hks⟩ : ∃ k, (factB ps cs x).1.2[j]? = some k := ⟨(factB ps cs x).1.2[j], by simp [hlt3]⟩
            obtain ⟨xb, xo, rfl, hxb, hxu, hxz, hxr⟩ := hv3.row j k hks
            obtain ⟨yb, yo, rfl, hyb, hyu, hyz, hyr⟩ := hw2.row j k hks
            simp only [rep_const, sz_const, hvs_3, List.cons.injEq, and_true] at hxr hxu hxz hyr hyu hyz
            simp (disch := first | omega | (simp only [e_ssz, e_psz, e_hszs, List.length_cons, List.length_nil]; try omega; done)) only [↓reduceIte, go_sem, lwBacks_L3, m11, m13, m15, c11.at, c11.2.1, b13.at, b13.2.1, hlt3, hxr.1, hxr.2.1, hxr.2.2, hyr.1, hyr.2.1, hyr.2.2]
            refine ⟨j + 1, ?_, by omega⟩
            rw [hI3]
            exact ⟨by simp [upd, m1], by simp [upd, m2], by simp [upd, m10], by simp [upd, m11], by simp [upd, m13], by simp [upd], hlt3, rfl⟩
          · obtain rfl : j = (factB ps cs x).1.2.length := by omega
            simp (disch := first | omega | (simp only [e_ssz, e_psz, e_hszs, List.length_cons, List.length_nil]; try omega; done)) only [↓reduceIte, go_sem, lwBacks_L3, m10, m11, m15, c11.at, c11.2.1]
            refine ⟨i + 1, ?_, by omega⟩
            rw [hI2]
            exact ⟨by simp [upd, m1], by simp [upd, m2], by simp [upd], hlt, u3, st2.trans0 s3, c0.step0 s3⟩
    · obtain rfl : i = rows.length := by omega
      simp (disch := first | omega | (simp only [e_ssz, e_psz, e_hszs, List.length_cons, List.length_nil]; try omega; done)) only [↓reduceIte, go_sem, lwBacks_L2, e1, e10]
      exact st.ext
end Go.Proofs.Ytjkppoffffjkmaa
