/- The law CoreClauses. -/
import Derived.Test.YtjkppoffffjkmaaUnbF
namespace Go.Proofs.Ytjkppoffffjkmaa
open Go Go.Ev Edict
def G_CoreClauses : Ctr := fun f vs h K _ => (f = 10 ∧ C_vars vs h K) ∨ (f = 11 ∧ C_unbound vs h K) ∨ (f = 12 ∧ C_vars vs h K) ∨ (f = 13 ∧ C_names vs h K) ∨ (f = 14 ∧ C_unbound vs h K)
theorem G_CoreClauses_ok : GOk Try.prog G_CoreClauses := by
  rintro f vs h K KP (⟨rfl, hC⟩ | ⟨rfl, hC⟩ | ⟨rfl, hC⟩ | ⟨rfl, hC⟩ | ⟨rfl, hC⟩)
  · exact rfVars_ok hC
  · exact rfUnbound_ok hC
  · exact crVars_ok hC
  · exact lwNames_ok hC
  · exact crUnbound_ok hC
theorem CoreClauses_hc {u : U} {h : H} {v : Value} {cs : List Clause} (hl : IsSl u h v cs) (hbk : bulkL cs ≤ 1048576) : HCX Try.prog 4 [v] h (fun v h' => v = .bool true ∧ Ext0 h h') fun _ _ => False := by
  obtain ⟨la, lc, rfl, q1, q2⟩ := hl.sl
  have hm := mlen'
  have hll := bulkL_pos cs
  refine CoreClauses_H G_CoreClauses G_CoreClauses_ok _ ?_
  simp (disch := first | omega | (simp only [e_ssz, e_psz, e_hszs, List.length_cons, List.length_nil]; try omega; done)) only [go_sem, CoreClauses_S, CoreClauses_E]
  obtain ⟨I, hI⟩ : ∃ I : Nat → Env → H → Prop, I = fun i σ h' => σ 0 = .slice la cs.length lc ∧ σ 3 = .int .i64 i ∧ i ≤ cs.length ∧ ∃ u', Step S0 u h u' h' := ⟨_, rfl⟩
  refine wpS_loop I (fun i => cs.length - i) 0 (by rw [hI]; exact ⟨by simp [upd], by simp [upd], Nat.zero_le _, u, .refl _ _ _⟩) ?_
  intro i σ h' hy
  rw [hI] at hy
  obtain ⟨e0, e3, hi, u', st⟩ := hy
  by_cases hlt : i < cs.length
  · obtain ⟨x, hs⟩ : ∃ x, cs[i]? = some x := ⟨cs[i], by simp [hlt]⟩
    have hxb : Rep.bulk x ≤ 1048576 := Nat.le_trans (bulkL_mem (List.mem_of_getElem? hs)) hbk
    obtain ⟨hb1, hb2, hb3⟩ := clause_bulk hxb
    obtain ⟨pb, po, rfl, hpb, hpu, hpz, hpr⟩ := (hl.mono st.ge).row i x hs
    have hprs := hpr
    rw [rep_clause] at hpr
    obtain ⟨va, vb, hpr, hh, hb⟩ := hpr
    obtain ⟨ha, hc', rfl, -, -⟩ := hh.sl
    obtain ⟨ba, bc, rfl, -, -⟩ := hb.sl
    rw [hpr] at hprs
    simp only [sz_clause, hvs_4, List.cons.injEq, and_true] at hpr hpu hpz
    obtain ⟨p0, p1, p2, p3⟩ := hpr
    simp (disch := first | omega | (simp only [e_ssz, e_psz, e_hszs, List.length_cons, List.length_nil]; try omega; done)) only [↓reduceIte, go_sem, CoreClauses_L1, e0, e3, hlt, p3]
    refine effS_call (.inl ⟨rfl, u', _, x.2, rfl, hb, hb1, fun u1 h1 w1 s1 hw1 => ⟨by simp (disch := first | omega | (simp only [e_ssz, e_psz, e_hszs, List.length_cons, List.length_nil]; try omega; done)) only [go_sem], ?_⟩⟩)
    have st1 := st.trans0 s1
    clear hprs hh hb p0 p1 p2 p3 hpb hpu hpz
    obtain ⟨pb', po', hpe, hpb, hpu, hpz, hpr⟩ := (hl.mono st1.ge).row i x hs
    cases hpe
    have hprs := hpr
    rw [rep_clause] at hpr
    obtain ⟨va, vb, hpr, hh, hb⟩ := hpr
    obtain ⟨ha, hc', rfl, -, -⟩ := hh.sl
    obtain ⟨ba, bc, rfl, -, -⟩ := hb.sl
    rw [hpr] at hprs
    simp only [sz_clause, hvs_4, List.cons.injEq, and_true] at hpr hpu hpz
    obtain ⟨p0, p1, p2, p3⟩ := hpr
    simp (disch := first | omega | (simp only [e_ssz, e_psz, e_hszs, List.length_cons, List.length_nil]; try omega; done)) only [↓reduceIte, go_sem, e0, e3, hlt, p0, p1, p2, p3]
    refine effS_call (.inr (.inl ⟨rfl, u1, x, _, rfl, hprs, hxb, fun u2 h2 s2 => ⟨by simp (disch := first | omega | (simp only [e_ssz, e_psz, e_hszs, List.length_cons, List.length_nil]; try omega; done)) only [go_sem], ?_⟩⟩))
    have st2 := st1.trans0 s2
    clear hprs hh hb p0 p1 p2 p3 hpb hpu hpz
    obtain ⟨pb', po', hpe, hpb, hpu, hpz, hpr⟩ := (hl.mono st2.ge).row i x hs
    cases hpe
    have hprs := hpr
    rw [rep_clause] at hpr
    obtain ⟨va, vb, hpr, hh, hb⟩ := hpr
    obtain ⟨ha, hc', rfl, -, -⟩ := hh.sl
    obtain ⟨ba, bc, rfl, -, -⟩ := hb.sl
    rw [hpr] at hprs
    simp only [sz_clause, hvs_4, List.cons.injEq, and_true] at hpr hpu hpz
    obtain ⟨p0, p1, p2, p3⟩ := hpr
    simp (disch := first | omega | (simp only [e_ssz, e_psz, e_hszs, List.length_cons, List.length_nil]; try omega; done)) only [↓reduceIte, go_sem, e0, e3, hlt, p3]
    refine effS_call (.inr (.inr (.inl ⟨rfl, u2, _, x.2, rfl, hb, hb1, fun u3 h3 w3 s3 hw3 => ⟨by simp (disch := first | omega | (simp only [e_ssz, e_psz, e_hszs, List.length_cons, List.length_nil]; try omega; done)) only [go_sem], ?_⟩⟩)))
    have st3 := st2.trans0 s3
    simp (disch := first | omega | (simp only [e_ssz, e_psz, e_hszs, List.length_cons, List.length_nil]; try omega; done)) only [↓reduceIte, go_sem]
    refine effS_call (.inr (.inr (.inr (.inl ⟨rfl, u3, _, _, _, rfl, hw3, hw1.mono (s2.trans0 s3).ge, ⟨by simp (disch := first | omega | (simp only [e_ssz, e_psz, e_hszs, List.length_cons, List.length_nil]; try omega; done)) only [go_sem], ?_⟩⟩))))
    clear hprs hh hb p0 p1 p2 p3 hpb hpu hpz
    obtain ⟨pb', po', hpe, hpb, hpu, hpz, hpr⟩ := (hl.mono st3.ge).row i x hs
    cases hpe
    have hprs := hpr
    rw [rep_clause] at hpr
    obtain ⟨va, vb, hpr, hh, hb⟩ := hpr
    obtain ⟨ha, hc', rfl, -, -⟩ := hh.sl
    obtain ⟨ba, bc, rfl, -, -⟩ := hb.sl
    rw [hpr] at hprs
    simp only [sz_clause, hvs_4, List.cons.injEq, and_true] at hpr hpu hpz
    obtain ⟨p0, p1, p2, p3⟩ := hpr
    simp (disch := first | omega | (simp only [e_ssz, e_psz, e_hszs, List.length_cons, List.length_nil]; try omega; done)) only [↓reduceIte, go_sem, e0, e3, hlt, p0, p1, p2, p3]
    refine effS_call (.inr (.inr (.inr (.inr ⟨rfl, u3, x, _, rfl, hprs, hxb, fun u4 h4 s4 => ⟨by simp (disch := first | omega | (simp only [e_ssz, e_psz, e_hszs, List.length_cons, List.length_nil]; try omega; done)) only [go_sem], ?_⟩⟩))))
    simp (disch := first | omega | (simp only [e_ssz, e_psz, e_hszs, List.length_cons, List.length_nil]; try omega; done)) only [↓reduceIte, go_sem, e3]
    refine ⟨i + 1, ?_, by omega⟩
    rw [hI]
    exact ⟨by simp [upd, e0], by simp [upd], hlt, u4, st3.trans0 s4⟩
  · obtain rfl : i = cs.length := by omega
    simp (disch := first | omega | (simp only [e_ssz, e_psz, e_hszs, List.length_cons, List.length_nil]; try omega; done)) only [↓reduceIte, go_sem, CoreClauses_L1, e0, e3]
    exact st.ext
end Go.Proofs.Ytjkppoffffjkmaa
