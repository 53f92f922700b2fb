/- CoreBinds: the law. -/
import Derived.Test.YtkobamedfbgjbaaKiC
import Derived.Test.YtkobamedfbgjbaaKlE
namespace Go.Ev
open Go
theorem Blk.new {u : U} {h : H} (l : List Value) (t : TypeId) : Blk (ub u h.size 0) (h.push (.cells l.toArray t)) h.size l :=
  ⟨by simp, e_hszpe rfl, e_hfrpe rfl, by simp [ub], fun i v hv => by rw [e_hvpe rfl, List.getD_eq_getElem?_getD, hv]; rfl⟩
theorem Step.own {S : Nat → Prop} {u u1 u2 : U} {h h1 h2 : H} (s : Step S0 u h u1 h1) (t : Step S u1 h1 u2 h2) (hn : ∀ j, S j → h.size ≤ j) : Step S0 u h u2 h2 := s.trans t (fun j hj e => absurd (hn j e) (by omega))
theorem two_aa {u : U} {h : H} {p q : Nat} {cs ds l m : List Value} (A : Blk u h p cs) (B : Blk u h q ds) (hpq : p ≠ q) (hl : l.length = cs.length) (hm : m.length = ds.length) : Step (fun j => j = p ∨ j = q) u h u (hsets (hsets h p 0 l) q 0 m) ∧ Blk u (hsets (hsets h p 0 l) q 0 m) p l ∧ Blk u (hsets (hsets h p 0 l) q 0 m) q m := by
  have s1 : Step (fun j => j = p) u h u (hsets h p 0 l) := Step.sets u h l rfl (by rw [A.2.2.2.1]; exact Nat.le_refl _) (by rw [A.2.1]; omega)
  have A1 := A.sets hl
  have B1 := B.step s1 (fun e => hpq e.symm)
  have s2 : Step (fun j => j = q) u (hsets h p 0 l) u (hsets (hsets h p 0 l) q 0 m) := Step.sets u _ m rfl (by rw [B1.2.2.2.1]; exact Nat.le_refl _) (by rw [B1.2.1]; omega)
  exact ⟨(s1.mono fun j _ h => .inl h).trans s2 (fun j _ h => .inr h), A1.step s2 hpq, B1.sets hm⟩
theorem two_b {u : U} {h : H} {q : Nat} {ds l m : List Value} (t : TypeId) (B : Blk u h q ds) (hm : m.length = ds.length) : Step (fun j => j = q) u h (ub u h.size 0) ((hsets h q 0 m).push (.cells l.toArray t)) ∧ Blk (ub u h.size 0) ((hsets h q 0 m).push (.cells l.toArray t)) h.size l ∧ Blk (ub u h.size 0) ((hsets h q 0 m).push (.cells l.toArray t)) q m := by
  have s1 : Step (fun j => j = q) u h u (hsets h q 0 m) := Step.sets u h m rfl (by rw [B.2.2.2.1]; exact Nat.le_refl _) (by rw [B.2.1]; omega)
  have B1 := B.sets hm
  have s2 := Step.push0 S0 u (hsets h q 0 m) l.toArray t
  have N := Blk.new (u := u) (h := hsets h q 0 m) l t
  have B2 := B1.step0 s2
  rw [hsets_size] at s2 N B2
  exact ⟨s1.trans0 s2, N, B2⟩
theorem two_c {u : U} {h : H} {p : Nat} {cs l zs m : List Value} (t : TypeId) (A : Blk u h p cs) (hl : l.length = cs.length) (hm : m.length = zs.length) :
    hsz ((hsets h p 0 l).push (.cells zs.toArray t)) h.size = m.length ∧ hfr ((hsets h p 0 l).push (.cells zs.toArray t)) h.size = (0, 0) ∧ Step (fun j => j = p) u h (ub u h.size 0) (hsets ((hsets h p 0 l).push (.cells zs.toArray t)) h.size 0 m) ∧ Blk (ub u h.size 0) (hsets ((hsets h p 0 l).push (.cells zs.toArray t)) h.size 0 m) p l ∧ Blk (ub u h.size 0) (hsets ((hsets h p 0 l).push (.cells zs.toArray t)) h.size 0 m) h.size m := by
  have s1 : Step (fun j => j = p) u h u (hsets h p 0 l) := Step.sets u h l rfl (by rw [A.2.2.2.1]; exact Nat.le_refl _) (by rw [A.2.1]; omega)
  have A1 := A.sets hl
  have s2 := Step.push0 S0 u (hsets h p 0 l) zs.toArray t
  have N := Blk.new (u := u) (h := hsets h p 0 l) zs t
  have A2 := A1.step0 s2
  rw [hsets_size] at s2 N A2
  have s3 : Step (fun j => j = h.size) (ub u h.size 0) ((hsets h p 0 l).push (.cells zs.toArray t)) (ub u h.size 0) (hsets ((hsets h p 0 l).push (.cells zs.toArray t)) h.size 0 m) := Step.sets _ _ m rfl (by rw [N.2.2.2.1]; exact Nat.le_refl _) (by rw [N.2.1]; omega)
  have hne : p ≠ h.size := fun e => by have := A.1; omega
  refine ⟨by rw [N.2.1, hm], N.2.2.1, ?_, A2.step s3 hne, N.sets hm⟩
  refine (s1.trans0 s2).trans s3 fun j hj e => ?_
  have e : j = h.size := e
  omega
end Go.Ev
namespace Go.Proofs.Ytkobamedfbgjbaa
open Go Go.Ev Edict
def G_klBinds : Ctr := fun f vs h K _ => (f = 7 ∧ C_right vs h K) ∨ (f = 8 ∧ C_given vs h K) ∨ (f = 9 ∧ C_build vs h K) ∨ (f = 12 ∧ C_works vs h K) ∨ (f = 13 ∧ C_bodied vs h K) ∨ (f = 14 ∧ C_bnd vs h K)
theorem G_klBinds_ok : GOk Try.prog G_klBinds := by
  rintro f vs h K KP (⟨rfl, hC⟩ | ⟨rfl, hC⟩ | ⟨rfl, hC⟩ | ⟨rfl, hC⟩ | ⟨rfl, hC⟩ | ⟨rfl, hC⟩)
  · exact klRight_ok hC
  · exact klGiven_ok hC
  · exact crBuild_ok hC
  · exact klWorks_ok hC
  · exact klBodied_ok hC
  · exact klBound_ok hC
def biT : S := sS (sS (sS klBinds_S))
theorem klBinds_cut : klBinds_S = .seq (sF klBinds_S) (.seq (sF (sS klBinds_S)) (.seq (sF (sS (sS klBinds_S))) biT)) := rfl
def biJ : S := sF (sS biT)
def biU : S := sS (sS biT)
theorem biT_cut : biT = .seq (sF biT) (.seq biJ biU) := rfl
theorem biU_ok {K : Value → H → Prop} {KP : List PanicEntry → H → Prop} {u u1 : U} {h h1 : H} {σ : Env} {p5 p7 p8 p9 : Nat} {v0 v1 v3 w0 w1 w3 : Value} {xa ya ra : Option Addr} {xc yc rc : Nat} {rs ss : List Rule} {q : List Clause}
    (st : Step S0 u h u1 h1) (e5 : σ 5 = .pointer (some ⟨p5, 0, none⟩)) (e7 : σ 7 = .pointer (some ⟨p7, 0, none⟩)) (e8 : σ 8 = .pointer (some ⟨p8, 0, none⟩)) (e9 : σ 9 = .pointer (some ⟨p9, 0, none⟩))
    (B5 : Blk u1 h1 p5 [v0, v1, .slice xa rs.length xc, v3]) (B7 : Blk u1 h1 p7 [.slice ra q.length rc]) (B8 : Blk u1 h1 p8 [w0, w1, .slice ya ss.length yc, w3]) (B9 : Blk u1 h1 p9 [.int .i64 0, .int .i64 0, .int .i64 0])
    (hx : IsSl u1 h1 (.slice xa rs.length xc) rs) (hy : IsSl u1 h1 (.slice ya ss.length yc) ss) (hq : IsSl u1 h1 (.slice ra q.length rc) q) (hbx : ∀ r ∈ rs, BoundR r) (hby : ∀ r ∈ ss, BoundR r) (hn : ss.length = bodN q) (hP : PowT u1 h1)
    (hK : ∀ u' h', Step S0 u h u' h' → K (.bool true) h') : wpS G_klBinds biU (retQ klBinds_E (callK K KP)) σ h1 := by
  have hm := mlen'
  obtain ⟨xa', xc', hxe, q1, q2⟩ := hx.sl
  cases hxe
  obtain ⟨ya', yc', hye, q3, q4⟩ := hy.sl
  cases hye
  have b5 := B5.1
  have b7 := B7.1
  have b8 := B8.1
  have b9 := B9.1
  simp (disch := first | omega | (simp only [e_ssz, e_psz, e_hszs, List.length_cons, List.length_nil]; try omega; done)) only [↓reduceIte, go_sem, biU, biT, sS, klBinds_S, e9, B9.at, B9.2.1]
  refine effS_call (.inr (.inr (.inr (.inl ⟨rfl, u1, rfl, hP, fun u2 h2 s2 => ⟨by simp (disch := first | omega | (simp only [e_ssz, e_psz, e_hszs, List.length_cons, List.length_nil]; try omega; done)) only [go_sem], ?_⟩⟩))))
  have C5 := B5.step0 s2
  have C7 := B7.step0 s2
  have C8 := B8.step0 s2
  have hq2 := hq.mono s2.ge
  have c5 := C5.1
  have c7 := C7.1
  have c8 := C8.1
  simp (disch := first | omega | (simp only [e_ssz, e_psz, e_hszs, List.length_cons, List.length_nil]; try omega; done)) only [↓reduceIte, go_sem, e7, e8, C7.at, C7.2.1, C8.at, C8.2.1]
  refine effS_call (.inr (.inr (.inr (.inr (.inl ⟨rfl, u2, _, q, rfl, hq2, fun u3 h3 s3 => ?_⟩)))))
  have D5 := C5.step0 s3
  have D8 := C8.step0 s3
  have d8 := D8.1
  refine ⟨by simp (disch := first | omega | (simp only [e_ssz, e_psz, e_hszs, List.length_cons, List.length_nil]; try omega; done)) only [↓reduceIte, go_sem, e8, C8.at, D8.at, D8.2.1], ?_⟩
  have st3 := (st.trans0 s2).trans0 s3
  have hx3 := (hx.mono s2.ge).mono s3.ge
  have hy3 := (hy.mono s2.ge).mono s3.ge
  simp (disch := first | omega | (simp only [e_ssz, e_psz, e_hszs, List.length_cons, List.length_nil]; try omega; done)) only [↓reduceIte, go_sem, hn]
  clear B5 B7 B8 B9 C5 C7 C8 b5 b7 b8 b9 c5 c7 c8 d8 hx hy hq hq2 s2 s3 st
  obtain ⟨I, hI⟩ : ∃ I : Nat → Env → H → Prop, I = fun i σ h' => σ 5 = .pointer (some ⟨p5, 0, none⟩) ∧ σ 8 = .pointer (some ⟨p8, 0, none⟩) ∧ σ 10 = .int .i64 i ∧ i ≤ rs.length ∧
    ∃ u' : U, Step S0 u h u' h' ∧ Blk u' h' p5 [v0, v1, .slice xa rs.length xc, v3] ∧ Blk u' h' p8 [w0, w1, .slice ya ss.length yc, w3] ∧ IsSl u' h' (.slice xa rs.length xc) rs ∧ IsSl u' h' (.slice ya ss.length yc) ss := ⟨_, rfl⟩
  refine wpS_loop I (fun i => rs.length - i) 0 (by rw [hI]; exact ⟨by simp [upd, e5], by simp [upd, e8], by simp [upd], Nat.zero_le _, u3, st3, D5, D8, hx3, hy3⟩) ?_
  clear D5 D8 hx3 hy3 st3 e5 e7 e8 e9 hP
  intro i σ h' hy
  rw [hI] at hy
  obtain ⟨e5, e8, e10, hi, u', st, B5, B8, hx, hy⟩ := hy
  have b5 := B5.1
  have b8 := B8.1
  by_cases hlt : i < rs.length
  · obtain ⟨x, hs⟩ : ∃ x, rs[i]? = some x := ⟨rs[i], by simp [hlt]⟩
    have hbr := hbx x (List.mem_of_getElem? hs)
    have hxk := hx
    obtain ⟨pb, po, rfl, hpb, hpu, hpz, hpr⟩ := hx.row i x hs
    have hprs := hpr
    rw [rep_rule] at hpr
    obtain ⟨z0, z1, z2, z3, z4, hpr, -⟩ := hpr
    rw [hpr] at hprs
    simp only [sz_rule, hvs_7, List.cons.injEq, and_true] at hpr hpu hpz
    obtain ⟨l0, l1, l2, l3, l4, l5, l6⟩ := hpr
    simp (disch := first | omega | (simp only [e_ssz, e_psz, e_hszs, List.length_cons, List.length_nil]; try omega; done)) only [↓reduceIte, go_sem, klBinds_L1, e5, e10, B5.at, B5.2.1, hlt, l0, l1, l2, l3, l4, l5, l6]
    refine effS_call (.inr (.inr (.inr (.inr (.inr ⟨rfl, u', x, _, rfl, hprs, hbr, fun u3 h3 s3 => ⟨by simp (disch := first | omega | (simp only [e_ssz, e_psz, e_hszs, List.length_cons, List.length_nil]; try omega; done)) only [go_sem], ?_⟩⟩)))))
    simp (disch := first | omega | (simp only [e_ssz, e_psz, e_hszs, List.length_cons, List.length_nil]; try omega; done)) only [↓reduceIte, go_sem, e10]
    refine ⟨i + 1, ?_, by omega⟩
    rw [hI]
    exact ⟨by simp [upd, e5], by simp [upd, e8], by simp [upd], hlt, u3, st.trans0 s3, B5.step0 s3, B8.step0 s3, hxk.mono s3.ge, hy.mono s3.ge⟩
  · obtain rfl : i = rs.length := by omega
    simp (disch := first | omega | (simp only [e_ssz, e_psz, e_hszs, List.length_cons, List.length_nil]; try omega; done)) only [↓reduceIte, go_sem, klBinds_L1, e5, e10, B5.at, B5.2.1]
    clear hI
    obtain ⟨J, hJ⟩ : ∃ J : Nat → Env → H → Prop, J = fun i σ h' => σ 8 = .pointer (some ⟨p8, 0, none⟩) ∧ σ 11 = .int .i64 i ∧ i ≤ ss.length ∧
      ∃ u' : U, Step S0 u h u' h' ∧ Blk u' h' p8 [w0, w1, .slice ya ss.length yc, w3] ∧ IsSl u' h' (.slice ya ss.length yc) ss := ⟨_, rfl⟩
    refine wpS_loop J (fun i => ss.length - i) 0 (by rw [hJ]; exact ⟨by simp [upd, e8], by simp [upd], Nat.zero_le _, u', st, B8, hy⟩) ?_
    clear e5 e8 e10 st B5 B8 hx hy b5 b8 hi hlt
    intro i σ h' hy
    rw [hJ] at hy
    obtain ⟨e8, e11, hi, u', st, B8, hy⟩ := hy
    have b8 := B8.1
    by_cases hlt : i < ss.length
    · obtain ⟨x, hs⟩ : ∃ x, ss[i]? = some x := ⟨ss[i], by simp [hlt]⟩
      have hbr := hby x (List.mem_of_getElem? hs)
      have hyk := hy
      obtain ⟨pb, po, rfl, hpb, hpu, hpz, hpr⟩ := hy.row i x hs
      have hprs := hpr
      rw [rep_rule] at hpr
      obtain ⟨z0, z1, z2, z3, z4, hpr, -⟩ := hpr
      rw [hpr] at hprs
      simp only [sz_rule, hvs_7, List.cons.injEq, and_true] at hpr hpu hpz
      obtain ⟨l0, l1, l2, l3, l4, l5, l6⟩ := hpr
      simp (disch := first | omega | (simp only [e_ssz, e_psz, e_hszs, List.length_cons, List.length_nil]; try omega; done)) only [↓reduceIte, go_sem, klBinds_L2, e8, e11, B8.at, B8.2.1, hlt, l0, l1, l2, l3, l4, l5, l6]
      refine effS_call (.inr (.inr (.inr (.inr (.inr ⟨rfl, u', x, _, rfl, hprs, hbr, fun u3 h3 s3 => ⟨by simp (disch := first | omega | (simp only [e_ssz, e_psz, e_hszs, List.length_cons, List.length_nil]; try omega; done)) only [go_sem], ?_⟩⟩)))))
      simp (disch := first | omega | (simp only [e_ssz, e_psz, e_hszs, List.length_cons, List.length_nil]; try omega; done)) only [↓reduceIte, go_sem, e11]
      refine ⟨i + 1, ?_, by omega⟩
      rw [hJ]
      exact ⟨by simp [upd, e8], by simp [upd], hlt, u3, st.trans0 s3, B8.step0 s3, hyk.mono s3.ge⟩
    · obtain rfl : i = ss.length := by omega
      simp (disch := first | omega | (simp only [e_ssz, e_psz, e_hszs, List.length_cons, List.length_nil]; try omega; done)) only [↓reduceIte, go_sem, klBinds_L2, klBinds_E, e8, e11, B8.at, B8.2.1]
      exact hK _ _ st
theorem biT_ok {K : Value → H → Prop} {KP : List PanicEntry → H → Prop} {u u1 : U} {h h1 : H} {σ : Env} {p2 p5 : Nat} {v0 v1 v3 w : Value} {xa la : Option Addr} {xc lc : Nat} {rs : List Rule} {p : List Clause} {fs : List Atom}
    (st : Step S0 u h u1 h1) (e1 : σ 1 = w) (e2 : σ 2 = .pointer (some ⟨p2, 0, none⟩)) (e5 : σ 5 = .pointer (some ⟨p5, 0, none⟩))
    (B2 : Blk u1 h1 p2 [.slice la p.length lc]) (B5 : Blk u1 h1 p5 [v0, v1, .slice xa rs.length xc, v3]) (hx : IsSl u1 h1 (.slice xa rs.length xc) rs) (hbx : ∀ r ∈ rs, BoundR r)
    (hl : IsSl u1 h1 (.slice la p.length lc) p) (hlf : IsSl u1 h1 w fs) (hwp : Rep.wf p) (hwf : Rep.wf fs) (hbp : ∀ c ∈ p, ClB c) (hbf : ∀ a ∈ fs, AtB a) (hP : PowT u1 h1)
    (hK : ∀ u' h', Step S0 u h u' h' → K (.bool true) h') : wpS G_klBinds biT (retQ klBinds_E (callK K KP)) σ h1 := by
  have hm := mlen'
  have b2 := B2.1
  rw [biT_cut]
  simp (disch := first | omega | (simp only [e_ssz, e_psz, e_hszs, List.length_cons, List.length_nil]; try omega; done)) only [↓reduceIte, go_sem, biT, sF, sS, klBinds_S, e2, B2.at, B2.2.1]
  refine effS_call (.inl ⟨rfl, u1, _, p, rfl, hl, hbp, fun u2 h2 w2 s2 hw2 => ⟨by simp (disch := first | omega | (simp only [e_ssz, e_psz, e_hszs, List.length_cons, List.length_nil]; try omega; done)) only [go_sem], ?_⟩⟩)
  obtain ⟨ra, rc, rfl, -, -⟩ := hw2.sl
  have s3 := Step.push0 S0 u2 h2 #[.slice ra (rightF p).length rc] 24
  have Q3 : Blk (ub u2 h2.size 0) (h2.push (.cells #[.slice ra (rightF p).length rc] 24)) h2.size [.slice ra (rightF p).length rc] := (Blk.mk (by simp only [e_psz]; omega) (by simp (disch := first | omega | (simp only [e_ssz, e_psz, e_hszs, List.length_cons, List.length_nil]; try omega; done)) only [go_sem]) (by simp (disch := first | omega | (simp only [e_ssz, e_psz, e_hszs, List.length_cons, List.length_nil]; try omega; done)) only [go_sem]) (by repeat (first | (refine ub_at ?_; simp only []; done) | apply ub_zero)) (by simp (disch := first | omega | (simp only [e_ssz, e_psz, e_hszs, List.length_cons, List.length_nil]; try omega; done)) only [go_sem]))
  have st3 := s2.trans0 s3
  have hw3 := hw2.mono s3.ge
  have B53 := B5.step0 st3
  have hp53 := B53.1
  simp (disch := first | omega | (simp only [e_ssz, e_psz, e_hszs, List.length_cons, List.length_nil]; try omega; done)) only [↓reduceIte, go_sem]
  generalize ub u2 h2.size 0 = u3 at s3 Q3 st3 hw3 B53
  obtain ⟨h3, hh3⟩ : ∃ h3, h3 = h2.push (.cells #[.slice ra (rightF p).length rc] 24) := ⟨_, rfl⟩
  rw [← hh3] at s3 Q3 st3 hw3 B53 hp53 ⊢
  have hP3 := hP.mono st3.ge
  have hlf3 := hlf.mono st3.ge
  obtain ⟨p7, hp7⟩ : ∃ p7, p7 = h2.size := ⟨_, rfl⟩
  rw [← hp7] at Q3 ⊢
  clear hh3 hp7
  obtain ⟨σ0, hσ0⟩ : ∃ σ0, σ0 = upd (upd (upd σ 42 (.agg #[.slice la p.length lc])) 43 (.agg #[.slice ra (rightF p).length rc])) 7 (.pointer (some ⟨p7, 0, none⟩)) := ⟨_, rfl⟩
  rw [← hσ0]
  have g1 : σ0 1 = w := by rw [hσ0]; simp [upd, e1]
  have g5 : σ0 5 = .pointer (some ⟨p5, 0, none⟩) := by rw [hσ0]; simp [upd, e5]
  have g7 : σ0 7 = .pointer (some ⟨p7, 0, none⟩) := by rw [hσ0]; simp [upd]
  clear hσ0
  have hq3 := Q3.1
  simp (disch := first | omega | (simp only [e_ssz, e_psz, e_hszs, List.length_cons, List.length_nil]; try omega; done)) only [go_sem, biJ, biT, sF, sS, klBinds_S]
  have hf0 : (buildF (rightF p) (givenF fs)).2 = (0, 0, 0) := by rw [right_built]
  obtain ⟨M, hM⟩ : ∃ M : Env → H → Prop, M = fun σ' h2 => σ' 5 = .pointer (some ⟨p5, 0, none⟩) ∧ σ' 7 = .pointer (some ⟨p7, 0, none⟩) ∧ ∃ (u2 : U) (p8 p9 : Nat) (l : List Value), Step S0 u3 h3 u2 h2 ∧ σ' 8 = .pointer (some ⟨p8, 0, none⟩) ∧ σ' 9 = .pointer (some ⟨p9, 0, none⟩) ∧ Blk u2 h2 p8 l ∧ Rep.rep u2 h2 (buildF (rightF p) (givenF fs)).1 l ∧ Blk u2 h2 p9 [.int .i64 0, .int .i64 0, .int .i64 0] := ⟨_, rfl⟩
  have fin : ∀ (σ' : Env) (h2 : H) (u2 : U) (p8 p9 : Nat) (l : List Value), Step S0 u3 h3 u2 h2 → σ' 5 = .pointer (some ⟨p5, 0, none⟩) → σ' 7 = .pointer (some ⟨p7, 0, none⟩) → σ' 8 = .pointer (some ⟨p8, 0, none⟩) → σ' 9 = .pointer (some ⟨p9, 0, none⟩) → Blk u2 h2 p8 l → Rep.rep u2 h2 (buildF (rightF p) (givenF fs)).1 l → Blk u2 h2 p9 [.int .i64 0, .int .i64 0, .int .i64 0] → M σ' h2 := fun σ' h2 u2 p8 p9 l q1 q2 q3 q4 q5 q6 q7 q8 => by
    rw [hM]; exact ⟨q2, q3, u2, p8, p9, l, q1, q4, q5, q6, q7, q8⟩
  refine w_join M ?_ ?_
  · simp (disch := first | omega | (simp only [e_ssz, e_psz, e_hszs, List.length_cons, List.length_nil]; try omega; done)) only [↓reduceIte, go_sem, w_both, g1, g7, Q3.at, Q3.2.1]
    refine ⟨?_, ?_, ?_, ?_, ?_⟩
    · refine effS_call (.inr (.inl ⟨rfl, u3, _, fs, rfl, hlf3, hbf, fun u21 h21 w21 s21 gv21 => ?_⟩))
      have Q21 := Q3.step0 s21
      have q21 := Q21.1
      have lf21 := hlf3.mono s21.ge
      have P21 := hP3.mono s21.ge
      have hw21 := hw3.mono s21.ge
      obtain ⟨ga21, gc21, rfl, -, -⟩ := gv21.sl
      have zz21 := s21.ge.sz
      try simp only [e_psz] at zz21
      refine ⟨by simp (disch := first | omega | (simp only [e_ssz, e_psz, e_hszs, List.length_cons, List.length_nil]; try omega; done)) only [↓reduceIte, go_sem, g7, Q3.at, Q21.at, Q21.2.1], ?_⟩
      simp (disch := first | omega | (simp only [e_ssz, e_psz, e_hszs, List.length_cons, List.length_nil]; try omega; done)) only [↓reduceIte, go_sem, w_both, g7, Q21.at, Q21.2.1]
      refine ⟨?_, ?_, ?_, ?_, ?_⟩
      · refine effS_call (.inr (.inr (.inl ⟨rfl, u21, _, _, rightF p, givenF fs, rfl, hw21, gv21, wf_right hwp, wf_given hwf, P21, fun u22 h22 l22 s22 hr22 => ?_⟩)))
        have Q22 := Q21.step0 s22
        have q22 := Q22.1
        have lf22 := lf21.mono s22.ge
        have P22 := P21.mono s22.ge
        have hw22 := hw21.mono s22.ge
        have gv22 := gv21.mono s22.ge
        have st22 := s21.trans0 s22
        have zz22 := s22.ge.sz
        try simp only [e_psz] at zz22
        refine ⟨by simp (disch := first | omega | (simp only [e_ssz, e_psz, e_hszs, List.length_cons, List.length_nil]; try omega; done)) only [go_sem], ?_⟩
        have hr := hr22
        obtain ⟨v0, v1, v2, v3, rfl, i0, i1, i2, i3⟩ := rep_core_inv hr
        obtain ⟨x0, y0, rfl, -, -⟩ := i0.sl
        obtain ⟨x1, y1, rfl, -, -⟩ := i1.sl
        obtain ⟨x2, y2, rfl, -, -⟩ := i2.sl
        obtain ⟨x3, y3, rfl, -, -⟩ := i3.sl
        rw [hf0]
        simp only [fV]
        simp (disch := first | omega | (simp only [e_ssz, e_psz, e_hszs, List.length_cons, List.length_nil]; try omega; done)) only [↓reduceIte, go_sem, w_both]
        refine ⟨?_, ?_⟩
        · have t1 := Step.push0 S0 u22 h22 #[.slice x0 (buildF (rightF p) (givenF fs)).1.1.length y0, .slice x1 (buildF (rightF p) (givenF fs)).1.2.1.length y1, .slice x2 (buildF (rightF p) (givenF fs)).1.2.2.1.length y2, .slice x3 (buildF (rightF p) (givenF fs)).1.2.2.2.length y3] 33
          have B1 : Blk (ub u22 h22.size 0) (h22.push (.cells #[.slice x0 (buildF (rightF p) (givenF fs)).1.1.length y0, .slice x1 (buildF (rightF p) (givenF fs)).1.2.1.length y1, .slice x2 (buildF (rightF p) (givenF fs)).1.2.2.1.length y2, .slice x3 (buildF (rightF p) (givenF fs)).1.2.2.2.length y3] 33)) h22.size [.slice x0 (buildF (rightF p) (givenF fs)).1.1.length y0, .slice x1 (buildF (rightF p) (givenF fs)).1.2.1.length y1, .slice x2 (buildF (rightF p) (givenF fs)).1.2.2.1.length y2, .slice x3 (buildF (rightF p) (givenF fs)).1.2.2.2.length y3] := (Blk.mk (by simp only [e_psz]; omega) (by simp (disch := first | omega | (simp only [e_ssz, e_psz, e_hszs, List.length_cons, List.length_nil]; try omega; done)) only [go_sem]) (by simp (disch := first | omega | (simp only [e_ssz, e_psz, e_hszs, List.length_cons, List.length_nil]; try omega; done)) only [go_sem]) (by repeat (first | (refine ub_at ?_; simp only []; done) | apply ub_zero)) (by simp (disch := first | omega | (simp only [e_ssz, e_psz, e_hszs, List.length_cons, List.length_nil]; try omega; done)) only [go_sem]))
          have t2 := Step.push0 S0 (ub u22 h22.size 0) (h22.push (.cells #[.slice x0 (buildF (rightF p) (givenF fs)).1.1.length y0, .slice x1 (buildF (rightF p) (givenF fs)).1.2.1.length y1, .slice x2 (buildF (rightF p) (givenF fs)).1.2.2.1.length y2, .slice x3 (buildF (rightF p) (givenF fs)).1.2.2.2.length y3] 33)) #[.int .i64 0, .int .i64 0, .int .i64 0] 36
          have B2 := B1.step0 t2
          have B3 : Blk (ub (ub u22 h22.size 0) (h22.push (.cells #[.slice x0 (buildF (rightF p) (givenF fs)).1.1.length y0, .slice x1 (buildF (rightF p) (givenF fs)).1.2.1.length y1, .slice x2 (buildF (rightF p) (givenF fs)).1.2.2.1.length y2, .slice x3 (buildF (rightF p) (givenF fs)).1.2.2.2.length y3] 33)).size 0) ((h22.push (.cells #[.slice x0 (buildF (rightF p) (givenF fs)).1.1.length y0, .slice x1 (buildF (rightF p) (givenF fs)).1.2.1.length y1, .slice x2 (buildF (rightF p) (givenF fs)).1.2.2.1.length y2, .slice x3 (buildF (rightF p) (givenF fs)).1.2.2.2.length y3] 33)).push (.cells #[.int .i64 0, .int .i64 0, .int .i64 0] 36)) (h22.size + 1) [.int .i64 0, .int .i64 0, .int .i64 0] := (Blk.mk (by simp only [e_psz]; omega) (by simp (disch := first | omega | (simp only [e_ssz, e_psz, e_hszs, List.length_cons, List.length_nil]; try omega; done)) only [go_sem]) (by simp (disch := first | omega | (simp only [e_ssz, e_psz, e_hszs, List.length_cons, List.length_nil]; try omega; done)) only [go_sem]) (by repeat (first | (refine ub_at ?_; simp only [e_psz]; done) | apply ub_zero)) (by simp (disch := first | omega | (simp only [e_ssz, e_psz, e_hszs, List.length_cons, List.length_nil]; try omega; done)) only [go_sem]))
          exact fin _ _ (_) (h22.size) (h22.size + 1) _ ((st22.trans0 t1).trans0 t2) (by simp [upd, g5]) (by simp [upd, g7]) (by simp [upd]) (by simp [upd]) (B2) (Rep.mono ((t1.trans0 t2)).ge hr) (B3)
        · have t1 := Step.push0 S0 u22 h22 #[.int .i64 0, .int .i64 0, .int .i64 0] 36
          have B1 : Blk (ub u22 h22.size 0) (h22.push (.cells #[.int .i64 0, .int .i64 0, .int .i64 0] 36)) h22.size [.int .i64 0, .int .i64 0, .int .i64 0] := (Blk.mk (by simp only [e_psz]; omega) (by simp (disch := first | omega | (simp only [e_ssz, e_psz, e_hszs, List.length_cons, List.length_nil]; try omega; done)) only [go_sem]) (by simp (disch := first | omega | (simp only [e_ssz, e_psz, e_hszs, List.length_cons, List.length_nil]; try omega; done)) only [go_sem]) (by repeat (first | (refine ub_at ?_; simp only []; done) | apply ub_zero)) (by simp (disch := first | omega | (simp only [e_ssz, e_psz, e_hszs, List.length_cons, List.length_nil]; try omega; done)) only [go_sem]))
          have t2 := Step.push0 S0 (ub u22 h22.size 0) (h22.push (.cells #[.int .i64 0, .int .i64 0, .int .i64 0] 36)) #[.slice x0 (buildF (rightF p) (givenF fs)).1.1.length y0, .slice x1 (buildF (rightF p) (givenF fs)).1.2.1.length y1, .slice x2 (buildF (rightF p) (givenF fs)).1.2.2.1.length y2, .slice x3 (buildF (rightF p) (givenF fs)).1.2.2.2.length y3] 33
          have B2 := B1.step0 t2
          have B3 : Blk (ub (ub u22 h22.size 0) (h22.push (.cells #[.int .i64 0, .int .i64 0, .int .i64 0] 36)).size 0) ((h22.push (.cells #[.int .i64 0, .int .i64 0, .int .i64 0] 36)).push (.cells #[.slice x0 (buildF (rightF p) (givenF fs)).1.1.length y0, .slice x1 (buildF (rightF p) (givenF fs)).1.2.1.length y1, .slice x2 (buildF (rightF p) (givenF fs)).1.2.2.1.length y2, .slice x3 (buildF (rightF p) (givenF fs)).1.2.2.2.length y3] 33)) (h22.size + 1) [.slice x0 (buildF (rightF p) (givenF fs)).1.1.length y0, .slice x1 (buildF (rightF p) (givenF fs)).1.2.1.length y1, .slice x2 (buildF (rightF p) (givenF fs)).1.2.2.1.length y2, .slice x3 (buildF (rightF p) (givenF fs)).1.2.2.2.length y3] := (Blk.mk (by simp only [e_psz]; omega) (by simp (disch := first | omega | (simp only [e_ssz, e_psz, e_hszs, List.length_cons, List.length_nil]; try omega; done)) only [go_sem]) (by simp (disch := first | omega | (simp only [e_ssz, e_psz, e_hszs, List.length_cons, List.length_nil]; try omega; done)) only [go_sem]) (by repeat (first | (refine ub_at ?_; simp only [e_psz]; done) | apply ub_zero)) (by simp (disch := first | omega | (simp only [e_ssz, e_psz, e_hszs, List.length_cons, List.length_nil]; try omega; done)) only [go_sem]))
          exact fin _ _ (_) (h22.size + 1) (h22.size) _ ((st22.trans0 t1).trans0 t2) (by simp [upd, g5]) (by simp [upd, g7]) (by simp [upd]) (by simp [upd]) (B3) (Rep.mono ((t1.trans0 t2)).ge hr) (B2)
      · have s23 := Step.push0 S0 u21 h21 #[.slice none 0 0, .slice none 0 0, .slice none 0 0, .slice none 0 0] 33
        have N23 : Blk (ub u21 h21.size 0) (h21.push (.cells #[.slice none 0 0, .slice none 0 0, .slice none 0 0, .slice none 0 0] 33)) (h21.size) [.slice none 0 0, .slice none 0 0, .slice none 0 0, .slice none 0 0] := (Blk.mk (by simp only [e_psz]; omega) (by simp (disch := first | omega | (simp only [e_ssz, e_psz, e_hszs, List.length_cons, List.length_nil]; try omega; done)) only [go_sem]) (by simp (disch := first | omega | (simp only [e_ssz, e_psz, e_hszs, List.length_cons, List.length_nil]; try omega; done)) only [go_sem]) (by repeat (first | (refine ub_at ?_; simp only []; done) | apply ub_zero)) (by simp (disch := first | omega | (simp only [e_ssz, e_psz, e_hszs, List.length_cons, List.length_nil]; try omega; done)) only [go_sem]))
        have Q23 := Q21.step0 s23
        have q23 := Q23.1
        have lf23 := lf21.mono s23.ge
        have P23 := P21.mono s23.ge
        have hw23 := hw21.mono s23.ge
        have gv23 := gv21.mono s23.ge
        have st23 := s21.trans0 s23
        have z23 := N23.1
        refine effS_call (.inr (.inr (.inl ⟨rfl, (ub u21 h21.size 0), _, _, rightF p, givenF fs, rfl, hw23, gv23, wf_right hwp, wf_given hwf, P23, fun u24 h24 l24 s24 hr24 => ?_⟩)))
        have Q24 := Q23.step0 s24
        have q24 := Q24.1
        have lf24 := lf23.mono s24.ge
        have P24 := P23.mono s24.ge
        have hw24 := hw23.mono s24.ge
        have gv24 := gv23.mono s24.ge
        have st24 := st23.trans0 s24
        have M824 := N23.step0 s24
        have m824 := M824.1
        have zz24 := s24.ge.sz
        try simp only [e_psz] at zz24
        refine ⟨by simp (disch := first | omega | (simp only [e_ssz, e_psz, e_hszs, List.length_cons, List.length_nil]; try omega; done)) only [go_sem], ?_⟩
        have hr := hr24
        obtain ⟨v0, v1, v2, v3, rfl, i0, i1, i2, i3⟩ := rep_core_inv hr
        obtain ⟨x0, y0, rfl, -, -⟩ := i0.sl
        obtain ⟨x1, y1, rfl, -, -⟩ := i1.sl
        obtain ⟨x2, y2, rfl, -, -⟩ := i2.sl
        obtain ⟨x3, y3, rfl, -, -⟩ := i3.sl
        rw [hf0]
        simp only [fV]
        simp (disch := first | omega | (simp only [e_ssz, e_psz, e_hszs, List.length_cons, List.length_nil]; try omega; done)) only [↓reduceIte, go_sem, M824.2.1, M824.2.2.1]
        obtain ⟨r1, r2, t1, t2, t3⟩ := two_c (l := [.slice x0 (buildF (rightF p) (givenF fs)).1.1.length y0, .slice x1 (buildF (rightF p) (givenF fs)).1.2.1.length y1, .slice x2 (buildF (rightF p) (givenF fs)).1.2.2.1.length y2, .slice x3 (buildF (rightF p) (givenF fs)).1.2.2.2.length y3]) (zs := [.int .i64 0, .int .i64 0, .int .i64 0]) (m := [.int .i64 0, .int .i64 0, .int .i64 0]) 36 M824 rfl rfl
        have t4 := Step.own st24 t1 (fun j e => by have e : j = h21.size := e; omega)
        refine ⟨by rw [r1]; exact Nat.le_refl _, .inr (by rw [r2]; exact Nat.le_refl _), ?_⟩
        exact fin _ _ _ (h21.size) (h24.size) _ t4 (by simp [upd, g5]) (by simp [upd, g7]) (by simp [upd]) (by simp [upd]) t2 (Rep.mono t1.ge hr) t3
      · have s25 := Step.push0 S0 u21 h21 #[.slice none 0 0, .slice none 0 0, .slice none 0 0, .slice none 0 0] 33
        have N25 : Blk (ub u21 h21.size 0) (h21.push (.cells #[.slice none 0 0, .slice none 0 0, .slice none 0 0, .slice none 0 0] 33)) (h21.size) [.slice none 0 0, .slice none 0 0, .slice none 0 0, .slice none 0 0] := (Blk.mk (by simp only [e_psz]; omega) (by simp (disch := first | omega | (simp only [e_ssz, e_psz, e_hszs, List.length_cons, List.length_nil]; try omega; done)) only [go_sem]) (by simp (disch := first | omega | (simp only [e_ssz, e_psz, e_hszs, List.length_cons, List.length_nil]; try omega; done)) only [go_sem]) (by repeat (first | (refine ub_at ?_; simp only []; done) | apply ub_zero)) (by simp (disch := first | omega | (simp only [e_ssz, e_psz, e_hszs, List.length_cons, List.length_nil]; try omega; done)) only [go_sem]))
        have Q25 := Q21.step0 s25
        have q25 := Q25.1
        have lf25 := lf21.mono s25.ge
        have P25 := P21.mono s25.ge
        have hw25 := hw21.mono s25.ge
        have gv25 := gv21.mono s25.ge
        have st25 := s21.trans0 s25
        have z25 := N25.1
        have s26 := Step.push0 S0 (ub u21 h21.size 0) (h21.push (.cells #[.slice none 0 0, .slice none 0 0, .slice none 0 0, .slice none 0 0] 33)) #[.int .i64 0, .int .i64 0, .int .i64 0] 36
        have N26 : Blk (ub (ub u21 h21.size 0) (h21.push (.cells #[.slice none 0 0, .slice none 0 0, .slice none 0 0, .slice none 0 0] 33)).size 0) ((h21.push (.cells #[.slice none 0 0, .slice none 0 0, .slice none 0 0, .slice none 0 0] 33)).push (.cells #[.int .i64 0, .int .i64 0, .int .i64 0] 36)) (h21.size + 1) [.int .i64 0, .int .i64 0, .int .i64 0] := (Blk.mk (by simp only [e_psz]; omega) (by simp (disch := first | omega | (simp only [e_ssz, e_psz, e_hszs, List.length_cons, List.length_nil]; try omega; done)) only [go_sem]) (by simp (disch := first | omega | (simp only [e_ssz, e_psz, e_hszs, List.length_cons, List.length_nil]; try omega; done)) only [go_sem]) (by repeat (first | (refine ub_at ?_; simp only [e_psz]; done) | apply ub_zero)) (by simp (disch := first | omega | (simp only [e_ssz, e_psz, e_hszs, List.length_cons, List.length_nil]; try omega; done)) only [go_sem]))
        have Q26 := Q25.step0 s26
        have q26 := Q26.1
        have lf26 := lf25.mono s26.ge
        have P26 := P25.mono s26.ge
        have hw26 := hw25.mono s26.ge
        have gv26 := gv25.mono s26.ge
        have st26 := st25.trans0 s26
        have M826 := N25.step0 s26
        have m826 := M826.1
        have z26 := N26.1
        refine effS_call (.inr (.inr (.inl ⟨rfl, (ub (ub u21 h21.size 0) (h21.push (.cells #[.slice none 0 0, .slice none 0 0, .slice none 0 0, .slice none 0 0] 33)).size 0), _, _, rightF p, givenF fs, rfl, hw26, gv26, wf_right hwp, wf_given hwf, P26, fun u27 h27 l27 s27 hr27 => ?_⟩)))
        have Q27 := Q26.step0 s27
        have q27 := Q27.1
        have lf27 := lf26.mono s27.ge
        have P27 := P26.mono s27.ge
        have hw27 := hw26.mono s27.ge
        have gv27 := gv26.mono s27.ge
        have st27 := st26.trans0 s27
        have M827 := M826.step0 s27
        have m827 := M827.1
        have M927 := N26.step0 s27
        have m927 := M927.1
        have zz27 := s27.ge.sz
        try simp only [e_psz] at zz27
        refine ⟨by simp (disch := first | omega | (simp only [e_ssz, e_psz, e_hszs, List.length_cons, List.length_nil]; try omega; done)) only [go_sem], ?_⟩
        have hr := hr27
        obtain ⟨v0, v1, v2, v3, rfl, i0, i1, i2, i3⟩ := rep_core_inv hr
        obtain ⟨x0, y0, rfl, -, -⟩ := i0.sl
        obtain ⟨x1, y1, rfl, -, -⟩ := i1.sl
        obtain ⟨x2, y2, rfl, -, -⟩ := i2.sl
        obtain ⟨x3, y3, rfl, -, -⟩ := i3.sl
        rw [hf0]
        simp only [fV]
        simp (disch := first | omega | (simp only [e_ssz, e_psz, e_hszs, List.length_cons, List.length_nil]; try omega; done)) only [↓reduceIte, go_sem, hsets_hsz, hsets_hfr, M827.2.1, M827.2.2.1, M927.2.1, M927.2.2.1]
        obtain ⟨t1, t2, t3⟩ := two_aa (l := [.slice x0 (buildF (rightF p) (givenF fs)).1.1.length y0, .slice x1 (buildF (rightF p) (givenF fs)).1.2.1.length y1, .slice x2 (buildF (rightF p) (givenF fs)).1.2.2.1.length y2, .slice x3 (buildF (rightF p) (givenF fs)).1.2.2.2.length y3]) (m := [.int .i64 0, .int .i64 0, .int .i64 0]) M827 M927 (by omega) rfl rfl
        have t4 := Step.own st27 t1 (fun j e => by have e : j = h21.size ∨ j = h21.size + 1 := e; omega)
        exact fin _ _ _ (h21.size) (h21.size + 1) _ t4 (by simp [upd, g5]) (by simp [upd, g7]) (by simp [upd]) (by simp [upd]) t2 (Rep.mono t1.ge hr) t3
      · have s28 := Step.push0 S0 u21 h21 #[.int .i64 0, .int .i64 0, .int .i64 0] 36
        have N28 : Blk (ub u21 h21.size 0) (h21.push (.cells #[.int .i64 0, .int .i64 0, .int .i64 0] 36)) (h21.size) [.int .i64 0, .int .i64 0, .int .i64 0] := (Blk.mk (by simp only [e_psz]; omega) (by simp (disch := first | omega | (simp only [e_ssz, e_psz, e_hszs, List.length_cons, List.length_nil]; try omega; done)) only [go_sem]) (by simp (disch := first | omega | (simp only [e_ssz, e_psz, e_hszs, List.length_cons, List.length_nil]; try omega; done)) only [go_sem]) (by repeat (first | (refine ub_at ?_; simp only []; done) | apply ub_zero)) (by simp (disch := first | omega | (simp only [e_ssz, e_psz, e_hszs, List.length_cons, List.length_nil]; try omega; done)) only [go_sem]))
        have Q28 := Q21.step0 s28
        have q28 := Q28.1
        have lf28 := lf21.mono s28.ge
        have P28 := P21.mono s28.ge
        have hw28 := hw21.mono s28.ge
        have gv28 := gv21.mono s28.ge
        have st28 := s21.trans0 s28
        have z28 := N28.1
        refine effS_call (.inr (.inr (.inl ⟨rfl, (ub u21 h21.size 0), _, _, rightF p, givenF fs, rfl, hw28, gv28, wf_right hwp, wf_given hwf, P28, fun u29 h29 l29 s29 hr29 => ?_⟩)))
        have Q29 := Q28.step0 s29
        have q29 := Q29.1
        have lf29 := lf28.mono s29.ge
        have P29 := P28.mono s29.ge
        have hw29 := hw28.mono s29.ge
        have gv29 := gv28.mono s29.ge
        have st29 := st28.trans0 s29
        have M929 := N28.step0 s29
        have m929 := M929.1
        have zz29 := s29.ge.sz
        try simp only [e_psz] at zz29
        refine ⟨by simp (disch := first | omega | (simp only [e_ssz, e_psz, e_hszs, List.length_cons, List.length_nil]; try omega; done)) only [go_sem], ?_⟩
        have hr := hr29
        obtain ⟨v0, v1, v2, v3, rfl, i0, i1, i2, i3⟩ := rep_core_inv hr
        obtain ⟨x0, y0, rfl, -, -⟩ := i0.sl
        obtain ⟨x1, y1, rfl, -, -⟩ := i1.sl
        obtain ⟨x2, y2, rfl, -, -⟩ := i2.sl
        obtain ⟨x3, y3, rfl, -, -⟩ := i3.sl
        rw [hf0]
        simp only [fV]
        simp (disch := first | omega | (simp only [e_ssz, e_psz, e_hszs, List.length_cons, List.length_nil]; try omega; done)) only [↓reduceIte, go_sem, M929.2.1, M929.2.2.1]
        obtain ⟨t1, t2, t3⟩ := two_b (l := [.slice x0 (buildF (rightF p) (givenF fs)).1.1.length y0, .slice x1 (buildF (rightF p) (givenF fs)).1.2.1.length y1, .slice x2 (buildF (rightF p) (givenF fs)).1.2.2.1.length y2, .slice x3 (buildF (rightF p) (givenF fs)).1.2.2.2.length y3]) (m := [.int .i64 0, .int .i64 0, .int .i64 0]) 33 M929 rfl
        have t4 := Step.own st29 t1 (fun j e => by have e : j = h21.size := e; omega)
        exact fin _ _ _ (h29.size) (h21.size) _ t4 (by simp [upd, g5]) (by simp [upd, g7]) (by simp [upd]) (by simp [upd]) t2 (Rep.mono t1.ge hr) t3
      · have s30 := Step.push0 S0 u21 h21 #[.int .i64 0, .int .i64 0, .int .i64 0] 36
        have N30 : Blk (ub u21 h21.size 0) (h21.push (.cells #[.int .i64 0, .int .i64 0, .int .i64 0] 36)) (h21.size) [.int .i64 0, .int .i64 0, .int .i64 0] := (Blk.mk (by simp only [e_psz]; omega) (by simp (disch := first | omega | (simp only [e_ssz, e_psz, e_hszs, List.length_cons, List.length_nil]; try omega; done)) only [go_sem]) (by simp (disch := first | omega | (simp only [e_ssz, e_psz, e_hszs, List.length_cons, List.length_nil]; try omega; done)) only [go_sem]) (by repeat (first | (refine ub_at ?_; simp only []; done) | apply ub_zero)) (by simp (disch := first | omega | (simp only [e_ssz, e_psz, e_hszs, List.length_cons, List.length_nil]; try omega; done)) only [go_sem]))
        have Q30 := Q21.step0 s30
        have q30 := Q30.1
        have lf30 := lf21.mono s30.ge
        have P30 := P21.mono s30.ge
        have hw30 := hw21.mono s30.ge
        have gv30 := gv21.mono s30.ge
        have st30 := s21.trans0 s30
        have z30 := N30.1
        have s31 := Step.push0 S0 (ub u21 h21.size 0) (h21.push (.cells #[.int .i64 0, .int .i64 0, .int .i64 0] 36)) #[.slice none 0 0, .slice none 0 0, .slice none 0 0, .slice none 0 0] 33
        have N31 : Blk (ub (ub u21 h21.size 0) (h21.push (.cells #[.int .i64 0, .int .i64 0, .int .i64 0] 36)).size 0) ((h21.push (.cells #[.int .i64 0, .int .i64 0, .int .i64 0] 36)).push (.cells #[.slice none 0 0, .slice none 0 0, .slice none 0 0, .slice none 0 0] 33)) (h21.size + 1) [.slice none 0 0, .slice none 0 0, .slice none 0 0, .slice none 0 0] := (Blk.mk (by simp only [e_psz]; omega) (by simp (disch := first | omega | (simp only [e_ssz, e_psz, e_hszs, List.length_cons, List.length_nil]; try omega; done)) only [go_sem]) (by simp (disch := first | omega | (simp only [e_ssz, e_psz, e_hszs, List.length_cons, List.length_nil]; try omega; done)) only [go_sem]) (by repeat (first | (refine ub_at ?_; simp only [e_psz]; done) | apply ub_zero)) (by simp (disch := first | omega | (simp only [e_ssz, e_psz, e_hszs, List.length_cons, List.length_nil]; try omega; done)) only [go_sem]))
        have Q31 := Q30.step0 s31
        have q31 := Q31.1
        have lf31 := lf30.mono s31.ge
        have P31 := P30.mono s31.ge
        have hw31 := hw30.mono s31.ge
        have gv31 := gv30.mono s31.ge
        have st31 := st30.trans0 s31
        have M931 := N30.step0 s31
        have m931 := M931.1
        have z31 := N31.1
        refine effS_call (.inr (.inr (.inl ⟨rfl, (ub (ub u21 h21.size 0) (h21.push (.cells #[.int .i64 0, .int .i64 0, .int .i64 0] 36)).size 0), _, _, rightF p, givenF fs, rfl, hw31, gv31, wf_right hwp, wf_given hwf, P31, fun u32 h32 l32 s32 hr32 => ?_⟩)))
        have Q32 := Q31.step0 s32
        have q32 := Q32.1
        have lf32 := lf31.mono s32.ge
        have P32 := P31.mono s32.ge
        have hw32 := hw31.mono s32.ge
        have gv32 := gv31.mono s32.ge
        have st32 := st31.trans0 s32
        have M932 := M931.step0 s32
        have m932 := M932.1
        have M832 := N31.step0 s32
        have m832 := M832.1
        have zz32 := s32.ge.sz
        try simp only [e_psz] at zz32
        refine ⟨by simp (disch := first | omega | (simp only [e_ssz, e_psz, e_hszs, List.length_cons, List.length_nil]; try omega; done)) only [go_sem], ?_⟩
        have hr := hr32
        obtain ⟨v0, v1, v2, v3, rfl, i0, i1, i2, i3⟩ := rep_core_inv hr
        obtain ⟨x0, y0, rfl, -, -⟩ := i0.sl
        obtain ⟨x1, y1, rfl, -, -⟩ := i1.sl
        obtain ⟨x2, y2, rfl, -, -⟩ := i2.sl
        obtain ⟨x3, y3, rfl, -, -⟩ := i3.sl
        rw [hf0]
        simp only [fV]
        simp (disch := first | omega | (simp only [e_ssz, e_psz, e_hszs, List.length_cons, List.length_nil]; try omega; done)) only [↓reduceIte, go_sem, hsets_hsz, hsets_hfr, M932.2.1, M932.2.2.1, M832.2.1, M832.2.2.1]
        obtain ⟨t1, t2, t3⟩ := two_aa (l := [.slice x0 (buildF (rightF p) (givenF fs)).1.1.length y0, .slice x1 (buildF (rightF p) (givenF fs)).1.2.1.length y1, .slice x2 (buildF (rightF p) (givenF fs)).1.2.2.1.length y2, .slice x3 (buildF (rightF p) (givenF fs)).1.2.2.2.length y3]) (m := [.int .i64 0, .int .i64 0, .int .i64 0]) M832 M932 (by omega) rfl rfl
        have t4 := Step.own st32 t1 (fun j e => by have e : j = h21.size + 1 ∨ j = h21.size := e; omega)
        exact fin _ _ _ (h21.size + 1) (h21.size) _ t4 (by simp [upd, g5]) (by simp [upd, g7]) (by simp [upd]) (by simp [upd]) t2 (Rep.mono t1.ge hr) t3
    · have s33 := Step.push0 S0 u3 h3 #[.slice none 0 0, .slice none 0 0, .slice none 0 0, .slice none 0 0] 33
      have N33 : Blk (ub u3 h3.size 0) (h3.push (.cells #[.slice none 0 0, .slice none 0 0, .slice none 0 0, .slice none 0 0] 33)) (h3.size) [.slice none 0 0, .slice none 0 0, .slice none 0 0, .slice none 0 0] := (Blk.mk (by simp only [e_psz]; omega) (by simp (disch := first | omega | (simp only [e_ssz, e_psz, e_hszs, List.length_cons, List.length_nil]; try omega; done)) only [go_sem]) (by simp (disch := first | omega | (simp only [e_ssz, e_psz, e_hszs, List.length_cons, List.length_nil]; try omega; done)) only [go_sem]) (by repeat (first | (refine ub_at ?_; simp only []; done) | apply ub_zero)) (by simp (disch := first | omega | (simp only [e_ssz, e_psz, e_hszs, List.length_cons, List.length_nil]; try omega; done)) only [go_sem]))
      have Q33 := Q3.step0 s33
      have q33 := Q33.1
      have lf33 := hlf3.mono s33.ge
      have P33 := hP3.mono s33.ge
      have hw33 := hw3.mono s33.ge
      have z33 := N33.1
      refine effS_call (.inr (.inl ⟨rfl, (ub u3 h3.size 0), _, fs, rfl, lf33, hbf, fun u34 h34 w34 s34 gv34 => ?_⟩))
      have Q34 := Q33.step0 s34
      have q34 := Q34.1
      have lf34 := lf33.mono s34.ge
      have P34 := P33.mono s34.ge
      have hw34 := hw33.mono s34.ge
      have st34 := s33.trans0 s34
      have M834 := N33.step0 s34
      have m834 := M834.1
      obtain ⟨ga34, gc34, rfl, -, -⟩ := gv34.sl
      have zz34 := s34.ge.sz
      try simp only [e_psz] at zz34
      refine ⟨by simp (disch := first | omega | (simp only [e_ssz, e_psz, e_hszs, List.length_cons, List.length_nil]; try omega; done)) only [↓reduceIte, go_sem, g7, Q33.at, Q34.at, Q34.2.1], ?_⟩
      simp (disch := first | omega | (simp only [e_ssz, e_psz, e_hszs, List.length_cons, List.length_nil]; try omega; done)) only [↓reduceIte, go_sem, w_both, g7, Q34.at, Q34.2.1]
      refine ⟨?_, ?_⟩
      · refine effS_call (.inr (.inr (.inl ⟨rfl, u34, _, _, rightF p, givenF fs, rfl, hw34, gv34, wf_right hwp, wf_given hwf, P34, fun u35 h35 l35 s35 hr35 => ?_⟩)))
        have Q35 := Q34.step0 s35
        have q35 := Q35.1
        have lf35 := lf34.mono s35.ge
        have P35 := P34.mono s35.ge
        have hw35 := hw34.mono s35.ge
        have gv35 := gv34.mono s35.ge
        have st35 := st34.trans0 s35
        have M835 := M834.step0 s35
        have m835 := M835.1
        have zz35 := s35.ge.sz
        try simp only [e_psz] at zz35
        refine ⟨by simp (disch := first | omega | (simp only [e_ssz, e_psz, e_hszs, List.length_cons, List.length_nil]; try omega; done)) only [go_sem], ?_⟩
        have hr := hr35
        obtain ⟨v0, v1, v2, v3, rfl, i0, i1, i2, i3⟩ := rep_core_inv hr
        obtain ⟨x0, y0, rfl, -, -⟩ := i0.sl
        obtain ⟨x1, y1, rfl, -, -⟩ := i1.sl
        obtain ⟨x2, y2, rfl, -, -⟩ := i2.sl
        obtain ⟨x3, y3, rfl, -, -⟩ := i3.sl
        rw [hf0]
        simp only [fV]
        simp (disch := first | omega | (simp only [e_ssz, e_psz, e_hszs, List.length_cons, List.length_nil]; try omega; done)) only [↓reduceIte, go_sem, M835.2.1, M835.2.2.1]
        obtain ⟨r1, r2, t1, t2, t3⟩ := two_c (l := [.slice x0 (buildF (rightF p) (givenF fs)).1.1.length y0, .slice x1 (buildF (rightF p) (givenF fs)).1.2.1.length y1, .slice x2 (buildF (rightF p) (givenF fs)).1.2.2.1.length y2, .slice x3 (buildF (rightF p) (givenF fs)).1.2.2.2.length y3]) (zs := [.int .i64 0, .int .i64 0, .int .i64 0]) (m := [.int .i64 0, .int .i64 0, .int .i64 0]) 36 M835 rfl rfl
        have t4 := Step.own st35 t1 (fun j e => by have e : j = h3.size := e; omega)
        refine ⟨by rw [r1]; exact Nat.le_refl _, .inr (by rw [r2]; exact Nat.le_refl _), ?_⟩
        exact fin _ _ _ (h3.size) (h35.size) _ t4 (by simp [upd, g5]) (by simp [upd, g7]) (by simp [upd]) (by simp [upd]) t2 (Rep.mono t1.ge hr) t3
      · have s36 := Step.push0 S0 u34 h34 #[.int .i64 0, .int .i64 0, .int .i64 0] 36
        have N36 : Blk (ub u34 h34.size 0) (h34.push (.cells #[.int .i64 0, .int .i64 0, .int .i64 0] 36)) (h34.size) [.int .i64 0, .int .i64 0, .int .i64 0] := (Blk.mk (by simp only [e_psz]; omega) (by simp (disch := first | omega | (simp only [e_ssz, e_psz, e_hszs, List.length_cons, List.length_nil]; try omega; done)) only [go_sem]) (by simp (disch := first | omega | (simp only [e_ssz, e_psz, e_hszs, List.length_cons, List.length_nil]; try omega; done)) only [go_sem]) (by repeat (first | (refine ub_at ?_; simp only []; done) | apply ub_zero)) (by simp (disch := first | omega | (simp only [e_ssz, e_psz, e_hszs, List.length_cons, List.length_nil]; try omega; done)) only [go_sem]))
        have Q36 := Q34.step0 s36
        have q36 := Q36.1
        have lf36 := lf34.mono s36.ge
        have P36 := P34.mono s36.ge
        have hw36 := hw34.mono s36.ge
        have gv36 := gv34.mono s36.ge
        have st36 := st34.trans0 s36
        have M836 := M834.step0 s36
        have m836 := M836.1
        have z36 := N36.1
        refine effS_call (.inr (.inr (.inl ⟨rfl, (ub u34 h34.size 0), _, _, rightF p, givenF fs, rfl, hw36, gv36, wf_right hwp, wf_given hwf, P36, fun u37 h37 l37 s37 hr37 => ?_⟩)))
        have Q37 := Q36.step0 s37
        have q37 := Q37.1
        have lf37 := lf36.mono s37.ge
        have P37 := P36.mono s37.ge
        have hw37 := hw36.mono s37.ge
        have gv37 := gv36.mono s37.ge
        have st37 := st36.trans0 s37
        have M837 := M836.step0 s37
        have m837 := M837.1
        have M937 := N36.step0 s37
        have m937 := M937.1
        have zz37 := s37.ge.sz
        try simp only [e_psz] at zz37
        refine ⟨by simp (disch := first | omega | (simp only [e_ssz, e_psz, e_hszs, List.length_cons, List.length_nil]; try omega; done)) only [go_sem], ?_⟩
        have hr := hr37
        obtain ⟨v0, v1, v2, v3, rfl, i0, i1, i2, i3⟩ := rep_core_inv hr
        obtain ⟨x0, y0, rfl, -, -⟩ := i0.sl
        obtain ⟨x1, y1, rfl, -, -⟩ := i1.sl
        obtain ⟨x2, y2, rfl, -, -⟩ := i2.sl
        obtain ⟨x3, y3, rfl, -, -⟩ := i3.sl
        rw [hf0]
        simp only [fV]
        simp (disch := first | omega | (simp only [e_ssz, e_psz, e_hszs, List.length_cons, List.length_nil]; try omega; done)) only [↓reduceIte, go_sem, hsets_hsz, hsets_hfr, M837.2.1, M837.2.2.1, M937.2.1, M937.2.2.1]
        obtain ⟨t1, t2, t3⟩ := two_aa (l := [.slice x0 (buildF (rightF p) (givenF fs)).1.1.length y0, .slice x1 (buildF (rightF p) (givenF fs)).1.2.1.length y1, .slice x2 (buildF (rightF p) (givenF fs)).1.2.2.1.length y2, .slice x3 (buildF (rightF p) (givenF fs)).1.2.2.2.length y3]) (m := [.int .i64 0, .int .i64 0, .int .i64 0]) M837 M937 (by omega) rfl rfl
        have t4 := Step.own st37 t1 (fun j e => by have e : j = h3.size ∨ j = h34.size := e; omega)
        exact fin _ _ _ (h3.size) (h34.size) _ t4 (by simp [upd, g5]) (by simp [upd, g7]) (by simp [upd]) (by simp [upd]) t2 (Rep.mono t1.ge hr) t3
    · have s38 := Step.push0 S0 u3 h3 #[.slice none 0 0, .slice none 0 0, .slice none 0 0, .slice none 0 0] 33
      have N38 : Blk (ub u3 h3.size 0) (h3.push (.cells #[.slice none 0 0, .slice none 0 0, .slice none 0 0, .slice none 0 0] 33)) (h3.size) [.slice none 0 0, .slice none 0 0, .slice none 0 0, .slice none 0 0] := (Blk.mk (by simp only [e_psz]; omega) (by simp (disch := first | omega | (simp only [e_ssz, e_psz, e_hszs, List.length_cons, List.length_nil]; try omega; done)) only [go_sem]) (by simp (disch := first | omega | (simp only [e_ssz, e_psz, e_hszs, List.length_cons, List.length_nil]; try omega; done)) only [go_sem]) (by repeat (first | (refine ub_at ?_; simp only []; done) | apply ub_zero)) (by simp (disch := first | omega | (simp only [e_ssz, e_psz, e_hszs, List.length_cons, List.length_nil]; try omega; done)) only [go_sem]))
      have Q38 := Q3.step0 s38
      have q38 := Q38.1
      have lf38 := hlf3.mono s38.ge
      have P38 := hP3.mono s38.ge
      have hw38 := hw3.mono s38.ge
      have z38 := N38.1
      have s39 := Step.push0 S0 (ub u3 h3.size 0) (h3.push (.cells #[.slice none 0 0, .slice none 0 0, .slice none 0 0, .slice none 0 0] 33)) #[.int .i64 0, .int .i64 0, .int .i64 0] 36
      have N39 : Blk (ub (ub u3 h3.size 0) (h3.push (.cells #[.slice none 0 0, .slice none 0 0, .slice none 0 0, .slice none 0 0] 33)).size 0) ((h3.push (.cells #[.slice none 0 0, .slice none 0 0, .slice none 0 0, .slice none 0 0] 33)).push (.cells #[.int .i64 0, .int .i64 0, .int .i64 0] 36)) (h3.size + 1) [.int .i64 0, .int .i64 0, .int .i64 0] := (Blk.mk (by simp only [e_psz]; omega) (by simp (disch := first | omega | (simp only [e_ssz, e_psz, e_hszs, List.length_cons, List.length_nil]; try omega; done)) only [go_sem]) (by simp (disch := first | omega | (simp only [e_ssz, e_psz, e_hszs, List.length_cons, List.length_nil]; try omega; done)) only [go_sem]) (by repeat (first | (refine ub_at ?_; simp only [e_psz]; done) | apply ub_zero)) (by simp (disch := first | omega | (simp only [e_ssz, e_psz, e_hszs, List.length_cons, List.length_nil]; try omega; done)) only [go_sem]))
      have Q39 := Q38.step0 s39
      have q39 := Q39.1
      have lf39 := lf38.mono s39.ge
      have P39 := P38.mono s39.ge
      have hw39 := hw38.mono s39.ge
      have st39 := s38.trans0 s39
      have M839 := N38.step0 s39
      have m839 := M839.1
      have z39 := N39.1
      refine effS_call (.inr (.inl ⟨rfl, (ub (ub u3 h3.size 0) (h3.push (.cells #[.slice none 0 0, .slice none 0 0, .slice none 0 0, .slice none 0 0] 33)).size 0), _, fs, rfl, lf39, hbf, fun u40 h40 w40 s40 gv40 => ?_⟩))
      have Q40 := Q39.step0 s40
      have q40 := Q40.1
      have lf40 := lf39.mono s40.ge
      have P40 := P39.mono s40.ge
      have hw40 := hw39.mono s40.ge
      have st40 := st39.trans0 s40
      have M840 := M839.step0 s40
      have m840 := M840.1
      have M940 := N39.step0 s40
      have m940 := M940.1
      obtain ⟨ga40, gc40, rfl, -, -⟩ := gv40.sl
      have zz40 := s40.ge.sz
      try simp only [e_psz] at zz40
      refine ⟨by simp (disch := first | omega | (simp only [e_ssz, e_psz, e_hszs, List.length_cons, List.length_nil]; try omega; done)) only [↓reduceIte, go_sem, g7, Q39.at, Q40.at, Q40.2.1], ?_⟩
      simp (disch := first | omega | (simp only [e_ssz, e_psz, e_hszs, List.length_cons, List.length_nil]; try omega; done)) only [↓reduceIte, go_sem]
      refine effS_call (.inr (.inr (.inl ⟨rfl, u40, _, _, rightF p, givenF fs, rfl, hw40, gv40, wf_right hwp, wf_given hwf, P40, fun u41 h41 l41 s41 hr41 => ?_⟩)))
      have Q41 := Q40.step0 s41
      have q41 := Q41.1
      have lf41 := lf40.mono s41.ge
      have P41 := P40.mono s41.ge
      have hw41 := hw40.mono s41.ge
      have gv41 := gv40.mono s41.ge
      have st41 := st40.trans0 s41
      have M841 := M840.step0 s41
      have m841 := M841.1
      have M941 := M940.step0 s41
      have m941 := M941.1
      have zz41 := s41.ge.sz
      try simp only [e_psz] at zz41
      refine ⟨by simp (disch := first | omega | (simp only [e_ssz, e_psz, e_hszs, List.length_cons, List.length_nil]; try omega; done)) only [go_sem], ?_⟩
      have hr := hr41
      obtain ⟨v0, v1, v2, v3, rfl, i0, i1, i2, i3⟩ := rep_core_inv hr
      obtain ⟨x0, y0, rfl, -, -⟩ := i0.sl
      obtain ⟨x1, y1, rfl, -, -⟩ := i1.sl
      obtain ⟨x2, y2, rfl, -, -⟩ := i2.sl
      obtain ⟨x3, y3, rfl, -, -⟩ := i3.sl
      rw [hf0]
      simp only [fV]
      simp (disch := first | omega | (simp only [e_ssz, e_psz, e_hszs, List.length_cons, List.length_nil]; try omega; done)) only [↓reduceIte, go_sem, hsets_hsz, hsets_hfr, M841.2.1, M841.2.2.1, M941.2.1, M941.2.2.1]
      obtain ⟨t1, t2, t3⟩ := two_aa (l := [.slice x0 (buildF (rightF p) (givenF fs)).1.1.length y0, .slice x1 (buildF (rightF p) (givenF fs)).1.2.1.length y1, .slice x2 (buildF (rightF p) (givenF fs)).1.2.2.1.length y2, .slice x3 (buildF (rightF p) (givenF fs)).1.2.2.2.length y3]) (m := [.int .i64 0, .int .i64 0, .int .i64 0]) M841 M941 (by omega) rfl rfl
      have t4 := Step.own st41 t1 (fun j e => by have e : j = h3.size ∨ j = h3.size + 1 := e; omega)
      exact fin _ _ _ (h3.size) (h3.size + 1) _ t4 (by simp [upd, g5]) (by simp [upd, g7]) (by simp [upd]) (by simp [upd]) t2 (Rep.mono t1.ge hr) t3
    · have s42 := Step.push0 S0 u3 h3 #[.int .i64 0, .int .i64 0, .int .i64 0] 36
      have N42 : Blk (ub u3 h3.size 0) (h3.push (.cells #[.int .i64 0, .int .i64 0, .int .i64 0] 36)) (h3.size) [.int .i64 0, .int .i64 0, .int .i64 0] := (Blk.mk (by simp only [e_psz]; omega) (by simp (disch := first | omega | (simp only [e_ssz, e_psz, e_hszs, List.length_cons, List.length_nil]; try omega; done)) only [go_sem]) (by simp (disch := first | omega | (simp only [e_ssz, e_psz, e_hszs, List.length_cons, List.length_nil]; try omega; done)) only [go_sem]) (by repeat (first | (refine ub_at ?_; simp only []; done) | apply ub_zero)) (by simp (disch := first | omega | (simp only [e_ssz, e_psz, e_hszs, List.length_cons, List.length_nil]; try omega; done)) only [go_sem]))
      have Q42 := Q3.step0 s42
      have q42 := Q42.1
      have lf42 := hlf3.mono s42.ge
      have P42 := hP3.mono s42.ge
      have hw42 := hw3.mono s42.ge
      have z42 := N42.1
      refine effS_call (.inr (.inl ⟨rfl, (ub u3 h3.size 0), _, fs, rfl, lf42, hbf, fun u43 h43 w43 s43 gv43 => ?_⟩))
      have Q43 := Q42.step0 s43
      have q43 := Q43.1
      have lf43 := lf42.mono s43.ge
      have P43 := P42.mono s43.ge
      have hw43 := hw42.mono s43.ge
      have st43 := s42.trans0 s43
      have M943 := N42.step0 s43
      have m943 := M943.1
      obtain ⟨ga43, gc43, rfl, -, -⟩ := gv43.sl
      have zz43 := s43.ge.sz
      try simp only [e_psz] at zz43
      refine ⟨by simp (disch := first | omega | (simp only [e_ssz, e_psz, e_hszs, List.length_cons, List.length_nil]; try omega; done)) only [↓reduceIte, go_sem, g7, Q42.at, Q43.at, Q43.2.1], ?_⟩
      simp (disch := first | omega | (simp only [e_ssz, e_psz, e_hszs, List.length_cons, List.length_nil]; try omega; done)) only [↓reduceIte, go_sem, w_both, g7, Q43.at, Q43.2.1]
      refine ⟨?_, ?_⟩
      · refine effS_call (.inr (.inr (.inl ⟨rfl, u43, _, _, rightF p, givenF fs, rfl, hw43, gv43, wf_right hwp, wf_given hwf, P43, fun u44 h44 l44 s44 hr44 => ?_⟩)))
        have Q44 := Q43.step0 s44
        have q44 := Q44.1
        have lf44 := lf43.mono s44.ge
        have P44 := P43.mono s44.ge
        have hw44 := hw43.mono s44.ge
        have gv44 := gv43.mono s44.ge
        have st44 := st43.trans0 s44
        have M944 := M943.step0 s44
        have m944 := M944.1
        have zz44 := s44.ge.sz
        try simp only [e_psz] at zz44
        refine ⟨by simp (disch := first | omega | (simp only [e_ssz, e_psz, e_hszs, List.length_cons, List.length_nil]; try omega; done)) only [go_sem], ?_⟩
        have hr := hr44
        obtain ⟨v0, v1, v2, v3, rfl, i0, i1, i2, i3⟩ := rep_core_inv hr
        obtain ⟨x0, y0, rfl, -, -⟩ := i0.sl
        obtain ⟨x1, y1, rfl, -, -⟩ := i1.sl
        obtain ⟨x2, y2, rfl, -, -⟩ := i2.sl
        obtain ⟨x3, y3, rfl, -, -⟩ := i3.sl
        rw [hf0]
        simp only [fV]
        simp (disch := first | omega | (simp only [e_ssz, e_psz, e_hszs, List.length_cons, List.length_nil]; try omega; done)) only [↓reduceIte, go_sem, M944.2.1, M944.2.2.1]
        obtain ⟨t1, t2, t3⟩ := two_b (l := [.slice x0 (buildF (rightF p) (givenF fs)).1.1.length y0, .slice x1 (buildF (rightF p) (givenF fs)).1.2.1.length y1, .slice x2 (buildF (rightF p) (givenF fs)).1.2.2.1.length y2, .slice x3 (buildF (rightF p) (givenF fs)).1.2.2.2.length y3]) (m := [.int .i64 0, .int .i64 0, .int .i64 0]) 33 M944 rfl
        have t4 := Step.own st44 t1 (fun j e => by have e : j = h3.size := e; omega)
        exact fin _ _ _ (h44.size) (h3.size) _ t4 (by simp [upd, g5]) (by simp [upd, g7]) (by simp [upd]) (by simp [upd]) t2 (Rep.mono t1.ge hr) t3
      · have s45 := Step.push0 S0 u43 h43 #[.slice none 0 0, .slice none 0 0, .slice none 0 0, .slice none 0 0] 33
        have N45 : Blk (ub u43 h43.size 0) (h43.push (.cells #[.slice none 0 0, .slice none 0 0, .slice none 0 0, .slice none 0 0] 33)) (h43.size) [.slice none 0 0, .slice none 0 0, .slice none 0 0, .slice none 0 0] := (Blk.mk (by simp only [e_psz]; omega) (by simp (disch := first | omega | (simp only [e_ssz, e_psz, e_hszs, List.length_cons, List.length_nil]; try omega; done)) only [go_sem]) (by simp (disch := first | omega | (simp only [e_ssz, e_psz, e_hszs, List.length_cons, List.length_nil]; try omega; done)) only [go_sem]) (by repeat (first | (refine ub_at ?_; simp only []; done) | apply ub_zero)) (by simp (disch := first | omega | (simp only [e_ssz, e_psz, e_hszs, List.length_cons, List.length_nil]; try omega; done)) only [go_sem]))
        have Q45 := Q43.step0 s45
        have q45 := Q45.1
        have lf45 := lf43.mono s45.ge
        have P45 := P43.mono s45.ge
        have hw45 := hw43.mono s45.ge
        have gv45 := gv43.mono s45.ge
        have st45 := st43.trans0 s45
        have M945 := M943.step0 s45
        have m945 := M945.1
        have z45 := N45.1
        refine effS_call (.inr (.inr (.inl ⟨rfl, (ub u43 h43.size 0), _, _, rightF p, givenF fs, rfl, hw45, gv45, wf_right hwp, wf_given hwf, P45, fun u46 h46 l46 s46 hr46 => ?_⟩)))
        have Q46 := Q45.step0 s46
        have q46 := Q46.1
        have lf46 := lf45.mono s46.ge
        have P46 := P45.mono s46.ge
        have hw46 := hw45.mono s46.ge
        have gv46 := gv45.mono s46.ge
        have st46 := st45.trans0 s46
        have M946 := M945.step0 s46
        have m946 := M946.1
        have M846 := N45.step0 s46
        have m846 := M846.1
        have zz46 := s46.ge.sz
        try simp only [e_psz] at zz46
        refine ⟨by simp (disch := first | omega | (simp only [e_ssz, e_psz, e_hszs, List.length_cons, List.length_nil]; try omega; done)) only [go_sem], ?_⟩
        have hr := hr46
        obtain ⟨v0, v1, v2, v3, rfl, i0, i1, i2, i3⟩ := rep_core_inv hr
        obtain ⟨x0, y0, rfl, -, -⟩ := i0.sl
        obtain ⟨x1, y1, rfl, -, -⟩ := i1.sl
        obtain ⟨x2, y2, rfl, -, -⟩ := i2.sl
        obtain ⟨x3, y3, rfl, -, -⟩ := i3.sl
        rw [hf0]
        simp only [fV]
        simp (disch := first | omega | (simp only [e_ssz, e_psz, e_hszs, List.length_cons, List.length_nil]; try omega; done)) only [↓reduceIte, go_sem, hsets_hsz, hsets_hfr, M946.2.1, M946.2.2.1, M846.2.1, M846.2.2.1]
        obtain ⟨t1, t2, t3⟩ := two_aa (l := [.slice x0 (buildF (rightF p) (givenF fs)).1.1.length y0, .slice x1 (buildF (rightF p) (givenF fs)).1.2.1.length y1, .slice x2 (buildF (rightF p) (givenF fs)).1.2.2.1.length y2, .slice x3 (buildF (rightF p) (givenF fs)).1.2.2.2.length y3]) (m := [.int .i64 0, .int .i64 0, .int .i64 0]) M846 M946 (by omega) rfl rfl
        have t4 := Step.own st46 t1 (fun j e => by have e : j = h43.size ∨ j = h3.size := e; omega)
        exact fin _ _ _ (h43.size) (h3.size) _ t4 (by simp [upd, g5]) (by simp [upd, g7]) (by simp [upd]) (by simp [upd]) t2 (Rep.mono t1.ge hr) t3
    · have s47 := Step.push0 S0 u3 h3 #[.int .i64 0, .int .i64 0, .int .i64 0] 36
      have N47 : Blk (ub u3 h3.size 0) (h3.push (.cells #[.int .i64 0, .int .i64 0, .int .i64 0] 36)) (h3.size) [.int .i64 0, .int .i64 0, .int .i64 0] := (Blk.mk (by simp only [e_psz]; omega) (by simp (disch := first | omega | (simp only [e_ssz, e_psz, e_hszs, List.length_cons, List.length_nil]; try omega; done)) only [go_sem]) (by simp (disch := first | omega | (simp only [e_ssz, e_psz, e_hszs, List.length_cons, List.length_nil]; try omega; done)) only [go_sem]) (by repeat (first | (refine ub_at ?_; simp only []; done) | apply ub_zero)) (by simp (disch := first | omega | (simp only [e_ssz, e_psz, e_hszs, List.length_cons, List.length_nil]; try omega; done)) only [go_sem]))
      have Q47 := Q3.step0 s47
      have q47 := Q47.1
      have lf47 := hlf3.mono s47.ge
      have P47 := hP3.mono s47.ge
      have hw47 := hw3.mono s47.ge
      have z47 := N47.1
      have s48 := Step.push0 S0 (ub u3 h3.size 0) (h3.push (.cells #[.int .i64 0, .int .i64 0, .int .i64 0] 36)) #[.slice none 0 0, .slice none 0 0, .slice none 0 0, .slice none 0 0] 33
      have N48 : Blk (ub (ub u3 h3.size 0) (h3.push (.cells #[.int .i64 0, .int .i64 0, .int .i64 0] 36)).size 0) ((h3.push (.cells #[.int .i64 0, .int .i64 0, .int .i64 0] 36)).push (.cells #[.slice none 0 0, .slice none 0 0, .slice none 0 0, .slice none 0 0] 33)) (h3.size + 1) [.slice none 0 0, .slice none 0 0, .slice none 0 0, .slice none 0 0] := (Blk.mk (by simp only [e_psz]; omega) (by simp (disch := first | omega | (simp only [e_ssz, e_psz, e_hszs, List.length_cons, List.length_nil]; try omega; done)) only [go_sem]) (by simp (disch := first | omega | (simp only [e_ssz, e_psz, e_hszs, List.length_cons, List.length_nil]; try omega; done)) only [go_sem]) (by repeat (first | (refine ub_at ?_; simp only [e_psz]; done) | apply ub_zero)) (by simp (disch := first | omega | (simp only [e_ssz, e_psz, e_hszs, List.length_cons, List.length_nil]; try omega; done)) only [go_sem]))
      have Q48 := Q47.step0 s48
      have q48 := Q48.1
      have lf48 := lf47.mono s48.ge
      have P48 := P47.mono s48.ge
      have hw48 := hw47.mono s48.ge
      have st48 := s47.trans0 s48
      have M948 := N47.step0 s48
      have m948 := M948.1
      have z48 := N48.1
      refine effS_call (.inr (.inl ⟨rfl, (ub (ub u3 h3.size 0) (h3.push (.cells #[.int .i64 0, .int .i64 0, .int .i64 0] 36)).size 0), _, fs, rfl, lf48, hbf, fun u49 h49 w49 s49 gv49 => ?_⟩))
      have Q49 := Q48.step0 s49
      have q49 := Q49.1
      have lf49 := lf48.mono s49.ge
      have P49 := P48.mono s49.ge
      have hw49 := hw48.mono s49.ge
      have st49 := st48.trans0 s49
      have M949 := M948.step0 s49
      have m949 := M949.1
      have M849 := N48.step0 s49
      have m849 := M849.1
      obtain ⟨ga49, gc49, rfl, -, -⟩ := gv49.sl
      have zz49 := s49.ge.sz
      try simp only [e_psz] at zz49
      refine ⟨by simp (disch := first | omega | (simp only [e_ssz, e_psz, e_hszs, List.length_cons, List.length_nil]; try omega; done)) only [↓reduceIte, go_sem, g7, Q48.at, Q49.at, Q49.2.1], ?_⟩
      simp (disch := first | omega | (simp only [e_ssz, e_psz, e_hszs, List.length_cons, List.length_nil]; try omega; done)) only [↓reduceIte, go_sem]
      refine effS_call (.inr (.inr (.inl ⟨rfl, u49, _, _, rightF p, givenF fs, rfl, hw49, gv49, wf_right hwp, wf_given hwf, P49, fun u50 h50 l50 s50 hr50 => ?_⟩)))
      have Q50 := Q49.step0 s50
      have q50 := Q50.1
      have lf50 := lf49.mono s50.ge
      have P50 := P49.mono s50.ge
      have hw50 := hw49.mono s50.ge
      have gv50 := gv49.mono s50.ge
      have st50 := st49.trans0 s50
      have M950 := M949.step0 s50
      have m950 := M950.1
      have M850 := M849.step0 s50
      have m850 := M850.1
      have zz50 := s50.ge.sz
      try simp only [e_psz] at zz50
      refine ⟨by simp (disch := first | omega | (simp only [e_ssz, e_psz, e_hszs, List.length_cons, List.length_nil]; try omega; done)) only [go_sem], ?_⟩
      have hr := hr50
      obtain ⟨v0, v1, v2, v3, rfl, i0, i1, i2, i3⟩ := rep_core_inv hr
      obtain ⟨x0, y0, rfl, -, -⟩ := i0.sl
      obtain ⟨x1, y1, rfl, -, -⟩ := i1.sl
      obtain ⟨x2, y2, rfl, -, -⟩ := i2.sl
      obtain ⟨x3, y3, rfl, -, -⟩ := i3.sl
      rw [hf0]
      simp only [fV]
      simp (disch := first | omega | (simp only [e_ssz, e_psz, e_hszs, List.length_cons, List.length_nil]; try omega; done)) only [↓reduceIte, go_sem, hsets_hsz, hsets_hfr, M950.2.1, M950.2.2.1, M850.2.1, M850.2.2.1]
      obtain ⟨t1, t2, t3⟩ := two_aa (l := [.slice x0 (buildF (rightF p) (givenF fs)).1.1.length y0, .slice x1 (buildF (rightF p) (givenF fs)).1.2.1.length y1, .slice x2 (buildF (rightF p) (givenF fs)).1.2.2.1.length y2, .slice x3 (buildF (rightF p) (givenF fs)).1.2.2.2.length y3]) (m := [.int .i64 0, .int .i64 0, .int .i64 0]) M850 M950 (by omega) rfl rfl
      have t4 := Step.own st50 t1 (fun j e => by have e : j = h3.size + 1 ∨ j = h3.size := e; omega)
      exact fin _ _ _ (h3.size + 1) (h3.size) _ t4 (by simp [upd, g5]) (by simp [upd, g7]) (by simp [upd]) (by simp [upd]) t2 (Rep.mono t1.ge hr) t3
  rintro σ1 h4 hM1
  rw [hM] at hM1
  obtain ⟨f5, f7, u4, p8, p9, l, s4, f8, f9, B8, hr, B9⟩ := hM1
  obtain ⟨w0, w1, w2, w3, rfl, i0, i1, i2, i3⟩ := rep_core_inv hr
  obtain ⟨ya, yc, rfl, -, -⟩ := i2.sl
  have hbd : ∀ r ∈ (buildF (rightF p) (givenF fs)).1.2.2.1, BoundR r := by
    rcases build_cases (rightF p) (givenF fs) with hh | hh
    · exact hh.2
    · exact absurd (by rw [hf0]) hh.1
  have hnn : (buildF (rightF p) (givenF fs)).1.2.2.1.length = bodN (rightF p) := by
    rw [right_built]
    have := rules_count (ps := psF (rightF p) (givenF fs)) (cs := csF (rightF p) (givenF fs)) (rightF p) ([], []) 0
    simpa [coreF] using this
  have st4 := st.trans0 (st3.trans0 s4)
  exact biU_ok st4 f5 f7 f8 f9 (B53.step0 s4) (Q3.step0 s4) B8 B9 ((hx.mono st3.ge).mono s4.ge) i2 (hw3.mono s4.ge) hbx hbd hnn (hP3.mono s4.ge) hK
theorem CoreBinds_hc {u : U} {h : H} {v w : Value} {p : List Clause} {fs : List Atom} (hl : IsSl u h v p) (hlf : IsSl u h w fs) (hwp : Rep.wf p) (hwf : Rep.wf fs) (hbp : ∀ c ∈ p, ClB c) (hbf : ∀ a ∈ fs, AtB a) (hP : PowT u h) :
    HCX Try.prog 4 [.agg #[v], w] h (fun v h' => v = .bool true ∧ Ext0 h h') fun _ _ => False := by
  obtain ⟨la, lc, rfl, q1, q2⟩ := hl.sl
  have hm := mlen'
  refine klBinds_H G_klBinds G_klBinds_ok _ _ ?_
  rw [klBinds_cut]
  simp (disch := first | omega | (simp only [e_ssz, e_psz, e_hszs, List.length_cons, List.length_nil]; try omega; done)) only [↓reduceIte, go_sem, sF, sS, klBinds_S]
  have s0 := Step.push0 S0 u h #[.slice la p.length lc] 24
  have B2 : Blk (ub u h.size 0) (h.push (.cells #[.slice la p.length lc] 24)) h.size [.slice la p.length lc] := Blk.new [.slice la p.length lc] _
  refine effS_call (.inr (.inr (.inl ⟨rfl, ub u h.size 0, _, _, p, fs, rfl, hl.mono s0.ge, hlf.mono s0.ge, hwp, hwf, hP.mono s0.ge, fun u1 h1 l s1 hr => ⟨by simp (disch := first | omega | (simp only [e_ssz, e_psz, e_hszs, List.length_cons, List.length_nil]; try omega; done)) only [go_sem], ?_⟩⟩)))
  have hcs := build_cases p fs
  obtain ⟨bb, hbb⟩ : ∃ bb, bb = buildF p fs := ⟨_, rfl⟩
  rw [← hbb] at hcs hr ⊢
  clear hbb
  obtain ⟨v0, v1, v2, v3, rfl, i0, i1, i2, i3⟩ := rep_core_inv hr
  obtain ⟨x0, y0, rfl, -, -⟩ := i0.sl
  obtain ⟨x1, y1, rfl, -, -⟩ := i1.sl
  obtain ⟨x2, y2, rfl, -, -⟩ := i2.sl
  obtain ⟨x3, y3, rfl, -, -⟩ := i3.sl
  have B2a := B2.step0 s1
  have s2 := Step.push0 S0 u1 h1 #[.slice x0 bb.1.1.length y0, .slice x1 bb.1.2.1.length y1, .slice x2 bb.1.2.2.1.length y2, .slice x3 bb.1.2.2.2.length y3] 33
  have B5 := Blk.new (u := u1) (h := h1) [.slice x0 bb.1.1.length y0, .slice x1 bb.1.2.1.length y1, .slice x2 bb.1.2.2.1.length y2, .slice x3 bb.1.2.2.2.length y3] 33
  have s3 := Step.push0 S0 (ub u1 h1.size 0) (h1.push (.cells #[.slice x0 bb.1.1.length y0, .slice x1 bb.1.2.1.length y1, .slice x2 bb.1.2.2.1.length y2, .slice x3 bb.1.2.2.2.length y3] 33)) #[.int .i64 bb.2.1, .int .i64 bb.2.2.1, .int .i64 bb.2.2.2] 36
  have B6 : Blk (ub (ub u1 h1.size 0) (h1.push (.cells #[.slice x0 bb.1.1.length y0, .slice x1 bb.1.2.1.length y1, .slice x2 bb.1.2.2.1.length y2, .slice x3 bb.1.2.2.2.length y3] 33)).size 0) ((h1.push (.cells #[.slice x0 bb.1.1.length y0, .slice x1 bb.1.2.1.length y1, .slice x2 bb.1.2.2.1.length y2, .slice x3 bb.1.2.2.2.length y3] 33)).push (.cells #[.int .i64 bb.2.1, .int .i64 bb.2.2.1, .int .i64 bb.2.2.2] 36)) (h1.size + 1) [.int .i64 bb.2.1, .int .i64 bb.2.2.1, .int .i64 bb.2.2.2] := (Blk.mk (by simp only [e_psz]; omega) (by simp (disch := first | omega | (simp only [e_ssz, e_psz, e_hszs, List.length_cons, List.length_nil]; try omega; done)) only [go_sem]) (by simp (disch := first | omega | (simp only [e_ssz, e_psz, e_hszs, List.length_cons, List.length_nil]; try omega; done)) only [go_sem]) (by repeat (first | (refine ub_at ?_; simp only [e_psz]; done) | apply ub_zero)) (by simp (disch := first | omega | (simp only [e_ssz, e_psz, e_hszs, List.length_cons, List.length_nil]; try omega; done)) only [go_sem]))
  have B53 := B5.step0 s3
  have B23 := (B2a.step0 s2).step0 s3
  have sb := (s1.trans0 s2).trans0 s3
  have st := s0.trans0 sb
  have hl3 := (hl.mono s0.ge).mono sb.ge
  have hlf3 := (hlf.mono s0.ge).mono sb.ge
  have hP3 := (hP.mono s0.ge).mono sb.ge
  have hx3 := (i2.mono s2.ge).mono s3.ge
  have b6 := B6.1
  have b5 := B53.1
  simp only [fV]
  simp (disch := first | omega | (simp only [e_ssz, e_psz, e_hszs, List.length_cons, List.length_nil]; try omega; done)) only [↓reduceIte, go_sem, e_ite]
  generalize ub (ub u1 h1.size 0) (h1.push (.cells #[.slice x0 bb.1.1.length y0, .slice x1 bb.1.2.1.length y1, .slice x2 bb.1.2.2.1.length y2, .slice x3 bb.1.2.2.2.length y3] 33)).size 0 = u3 at B53 B6 B23 st hl3 hlf3 hP3 hx3
  generalize (h1.push (.cells #[.slice x0 bb.1.1.length y0, .slice x1 bb.1.2.1.length y1, .slice x2 bb.1.2.2.1.length y2, .slice x3 bb.1.2.2.2.length y3] 33)).push (.cells #[.int .i64 bb.2.1, .int .i64 bb.2.2.1, .int .i64 bb.2.2.2] 36) = h3 at B53 B6 B23 st hl3 hlf3 hP3 hx3 b5 b6 ⊢
  rcases hcs with ⟨hf, hbr⟩ | ⟨hf, hbr⟩
  · have f1 : bb.2.1 = 0 := by rw [hf]
    have f2 : bb.2.2.1 = 0 := by rw [hf]
    have f3 : bb.2.2.2 = 0 := by rw [hf]
    rw [f1, f2, f3] at B6
    simp (disch := first | omega | (simp only [e_ssz, e_psz, e_hszs, List.length_cons, List.length_nil]; try omega; done)) only [go_sem, f1, f2, f3]
    exact biT_ok st (by simp [upd]) (by simp [upd]) (by simp [upd]) B23 B53 hx3 hbr hl3 hlf3 hwp hwf hbp hbf hP3 (fun u' h' s => ⟨rfl, s.ext⟩)
  · have f1 : ¬ bb.2.1 = 0 := hf
    have l1 : bb.1.1.length = 0 := by rw [hbr]; rfl
    have l2 : bb.1.2.2.1.length = 0 := by rw [hbr]; rfl
    have l3 : bb.1.2.2.2.length = 0 := by rw [hbr]; rfl
    have hbr2 : ∀ r ∈ bb.1.2.2.1, BoundR r := by rw [hbr]; exact fun r hr => nomatch hr
    simp (disch := first | omega | (simp only [e_ssz, e_psz, e_hszs, List.length_cons, List.length_nil]; try omega; done)) only [go_sem, eq_false f1, eq_false (show ¬ (0 : Int) < (bb.1.1.length : Int) by omega), eq_false (show ¬ (0 : Int) < (bb.1.2.2.1.length : Int) by omega), eq_false (show ¬ (0 : Int) < (bb.1.2.2.2.length : Int) by omega)]
    exact biT_ok st (by simp [upd]) (by simp [upd]) (by simp [upd]) B23 B53 hx3 hbr2 hl3 hlf3 hwp hwf hbp hbf hP3 (fun u' h' s => ⟨rfl, s.ext⟩)
end Go.Proofs.Ytkobamedfbgjbaa
