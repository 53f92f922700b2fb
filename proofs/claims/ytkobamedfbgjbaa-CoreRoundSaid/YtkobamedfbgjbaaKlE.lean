/- The laws of core: the right program, the given facts. -/
import Derived.Test.YtkobamedfbgjbaaKlD
namespace Go.Proofs.Ytkobamedfbgjbaa
open Go Go.Ev Edict
def ClB (c : Clause) : Prop := AtB c.1 ∧ ∀ x ∈ c.2, LtB x
def C_right (vs : List Value) (h : H) (K : Value → H → Prop) : Prop := ∃ (u : U) (v : Value) (p : List Clause), vs = [.agg #[v]] ∧ IsSl u h v p ∧ (∀ c ∈ p, ClB c) ∧ ∀ u' h' w, Step S0 u h u' h' → IsSl u' h' w (rightF p) → K (.agg #[w]) h'
def G_klRight : Ctr := fun f vs h K _ => (f = 23 ∧ C_mBody vs h K) ∨ (f = 24 ∧ C_mAtom vs h K)
theorem G_klRight_ok : GOk Try.prog G_klRight := by
  rintro f vs h K KP (⟨rfl, hC⟩ | ⟨rfl, hC⟩)
  · exact klBody_ok hC
  · exact klAtom_ok hC
theorem klRight_ok {vs : List Value} {h : H} {K : Value → H → Prop} {KP : List PanicEntry → H → Prop} (hC : C_right vs h K) : HCX Try.prog 7 vs h K KP := by
  obtain ⟨u, v, p, rfl, hl, hCB, hK⟩ := hC
  obtain ⟨la, lc, rfl, q1, q2⟩ := hl.sl
  have hm := mlen'
  obtain ⟨P, hP⟩ : ∃ P, P = p.take 200 := ⟨_, rfl⟩
  have hn : P.length ≤ 200 := by rw [hP, List.length_take]; exact Nat.min_le_left _ _
  have hmin : P.length = if 200 < p.length then 200 else p.length := by rw [hP, List.length_take]; split <;> omega
  refine klRight_H G_klRight G_klRight_ok _ ?_
  have sA := Step.push0 S0 u h #[.slice la p.length lc] 24
  have A : Blk (ub u h.size 0) (h.push (.cells #[.slice la p.length lc] 24)) h.size [.slice la p.length lc] := (Blk.mk (by simp only [e_psz]; omega) (by simp (disch := first | omega | (simp only [zz]; try omega; done)) only [go_sem]) (by simp (disch := first | omega | (simp only [zz]; try omega; done)) only [go_sem]) (by repeat (first | (refine ub_at ?_; simp only []; done) | apply ub_zero)) (by simp (disch := first | omega | (simp only [zz]; try omega; done)) only [go_sem]))
  have sB := Step.push0 S0 (ub u h.size 0) (h.push (.cells #[.slice la p.length lc] 24)) #[.slice none 0 0] 24
  have R : Blk (ub (ub u h.size 0) (h.push (.cells #[.slice la p.length lc] 24)).size 0) ((h.push (.cells #[.slice la p.length lc] 24)).push (.cells #[.slice none 0 0] 24)) (h.size + 1) [.slice none 0 0] := (Blk.mk (by simp only [e_psz]; omega) (by simp (disch := first | omega | (simp only [zz]; try omega; done)) only [go_sem]) (by simp (disch := first | omega | (simp only [zz]; try omega; done)) only [go_sem]) (by repeat (first | (refine ub_at ?_; simp only [e_psz]; done) | apply ub_zero)) (by simp (disch := first | omega | (simp only [zz]; try omega; done)) only [go_sem]))
  have A1 := A.step0 sB
  have st1 := sA.trans0 sB
  generalize ub (ub u h.size 0) (h.push (.cells #[.slice la p.length lc] 24)).size 0 = u1 at A1 R st1
  obtain ⟨h1, hh1⟩ : ∃ h1, h1 = (h.push (.cells #[.slice la p.length lc] 24)).push (.cells #[.slice none 0 0] 24) := ⟨_, rfl⟩
  have hs1 : h1.size = h.size + 2 := by rw [hh1]; simp only [e_psz]
  have sC := Step.push0 S0 u1 h1 #[.slice none 0 0] 24
  have Q : Blk (ub u1 h1.size 0) (h1.push (.cells #[.slice none 0 0] 24)) h1.size [.slice none 0 0] := (Blk.mk (by simp only [e_psz]; omega) (by simp (disch := first | omega | (simp only [zz]; try omega; done)) only [go_sem]) (by simp (disch := first | omega | (simp only [zz]; try omega; done)) only [go_sem]) (by repeat (first | (refine ub_at ?_; simp only []; done) | apply ub_zero)) (by simp (disch := first | omega | (simp only [zz]; try omega; done)) only [go_sem]))
  simp (disch := first | omega | (simp only [zz]; try omega; done)) only [↓reduceIte, go_sem, klRight_S, klRight_E]
  rw [← hh1] at A1 R st1 ⊢
  have A2 := A1.step0 sC
  have R2 := R.step0 sC
  have st2 := st1.trans0 sC
  clear hh1 sA sB A
  obtain ⟨I, hI⟩ : ∃ I : Nat → Env → H → Prop, I = fun i σ h' => σ 1 = .pointer (some ⟨h.size, 0, none⟩) ∧ σ 2 = .pointer (some ⟨h.size + 1, 0, none⟩) ∧ σ 3 = .pointer (some ⟨h.size + 2, 0, none⟩) ∧ σ 4 = .int .i64 i ∧ i ≤ P.length ∧
    ∃ (u' : U) (vQ : Value), Step S0 u h u' h' ∧ Own h.size u' h' vQ ((P.take i).map clauseM) ∧ Blk u' h' h.size [.slice la p.length lc] ∧ Blk u' h' (h.size + 1) [.slice none 0 0] ∧ Blk u' h' (h.size + 2) [vQ] ∧ ∀ j, OwnB vQ j → h.size + 3 ≤ j := ⟨_, rfl⟩
  refine wpS_loop I (fun i => P.length - i) 0 (by
    rw [hI]
    exact ⟨by simp [upd], by simp [upd], by simp [upd], by simp [upd], Nat.zero_le _, _, _, st2, .nil _ _ _, A2, R2, by rw [← hs1]; exact Q, fun j hj => absurd hj ownb_none⟩) ?_
  clear A2 R2 st2 Q sC A1 R st1 hs1
  intro i σ h' hy
  rw [hI] at hy
  obtain ⟨e1, e2, e3, e4, hi, u', vQ, st, ho, A, R, Q, nQ⟩ := hy
  have ha1 := A.1
  have hr1 := R.1
  have hq1 := Q.1
  by_cases hlt : i < P.length
  · obtain ⟨c, hs⟩ : ∃ c, P[i]? = some c := ⟨P[i], by simp [hlt]⟩
    have hsa : p[i]? = some c := by rw [hP, List.getElem?_take] at hs; split at hs; exact hs; cases hs
    have hil := (List.getElem?_eq_some_iff.1 hsa).1
    have hsn : (P.take (i + 1)).map clauseM = (P.take i).map clauseM ++ [clauseM c] := by rw [List.take_add_one, hs, Option.toList_some, List.map_append]; rfl
    have hCx := hCB c (List.mem_of_getElem? hsa)
    obtain ⟨pb, po, rfl, hpb, hpu, hpz, hpr⟩ := (hl.mono st.ge).row i c hsa
    rw [rep_clause] at hpr
    obtain ⟨va, vb, hpr, hh, hbd⟩ := hpr
    obtain ⟨ha, hc, rfl, -, -⟩ := hh.sl
    obtain ⟨ba, bc, rfl, -, -⟩ := hbd.sl
    simp only [sz_clause, hvs_4, List.cons.injEq, and_true] at hpr hpu hpz
    obtain ⟨l0, l1, l2, l3⟩ := hpr
    have sM := Step.push0 S0 u' h' #[.slice none 0 0] 84
    have B : Blk (ub u' h'.size 0) (h'.push (.cells #[.slice none 0 0] 84)) h'.size [.slice none 0 0] := (Blk.mk (by simp only [e_psz]; omega) (by simp (disch := first | omega | (simp only [zz]; try omega; done)) only [go_sem]) (by simp (disch := first | omega | (simp only [zz]; try omega; done)) only [go_sem]) (by repeat (first | (refine ub_at ?_; simp only []; done) | apply ub_zero)) (by simp (disch := first | omega | (simp only [zz]; try omega; done)) only [go_sem]))
    have M : MkS h'.size (ub u' h'.size 0) (h'.push (.cells #[.slice none 0 0] 84)) h'.size (.slice none 0 0) [] := ⟨B, .nil _ _ _, ownb_none, Nat.le_refl _, by simp only [e_psz]; omega⟩
    have keep : ∀ (u2 : U) (h2 : H), Step S0 u' h' u2 h2 → pb < h2.size ∧ po + i * 4 + 4 ≤ hsz h2 pb ∧ ∀ m, m < 4 → Go.Ev.hv h2 pb (po + i * 4 + m) = Go.Ev.hv h' pb (po + i * 4 + m) := fun u2 h2 s2 =>
      ⟨Nat.lt_of_lt_of_le hpb s2.ge.sz, by rw [(s2.ge.hs pb hpb).1]; exact hpz, fun m hm => s2.ge.cl pb hpb _ (by omega)⟩
    simp (disch := first | omega | (simp only [zz]; try omega; done)) only [↓reduceIte, go_sem, klRight_L1, e1, e4, A.at, A.2.1, hil, eq_true (show (i : Int) < 200 by omega), l3]
    refine effS_call (.inl ⟨rfl, h'.size, ub u' h'.size 0, h'.size, _, _, c.2, rfl, hbd.mono sM.ge, hCx.2, M, fun u2 h2 vV2 w s2 M2 b2 hw => ⟨by simp (disch := first | omega | (simp only [zz]; try omega; done)) only [go_sem], ?_⟩⟩)
    obtain ⟨wa, wc, rfl, -, -⟩ := hw.sl
    have s12 : Step S0 u' h' u2 h2 := sM.trans s2 (fun j hj hm => hm.elim (fun e => by omega) (fun hm => absurd hm ownb_none))
    have A2 := A.step0 s12
    have R2 := R.step0 s12
    have Q2 := Q.step0 s12
    have o2 := ho.step0 s12
    have st2 := st.trans0 s12
    have ha2 := A2.1
    have hq2 := Q2.1
    have hz2 := s12.ge.sz
    obtain ⟨hpb2, hpz2, hk2⟩ := keep u2 h2 s12
    have m0 := hk2 0 (by omega)
    have m1 := hk2 1 (by omega)
    have m2 := hk2 2 (by omega)
    rw [Nat.add_zero, l0] at m0
    rw [l1] at m1
    rw [l2] at m2
    have hl16 := bodyV_len c.2
    simp (disch := first | omega | (simp only [zz]; try omega; done)) only [↓reduceIte, go_sem, e1, e3, e4, A2.at, A2.2.1, Q2.at, Q2.2.1, hil, m0, m1, m2]
    refine effS_call (.inr ⟨rfl, h'.size, u2, h'.size, vV2, bodyV c.2, c.1, [str c.1.1, .slice ha c.1.2.1.length hc, .int .i64 c.1.2.2], false, rfl, by rw [rep_atom]; exact ⟨_, rfl, hh.mono s12.ge⟩, hCx.1, M2, hl16, fun u3 h3 vV3 c3 s3 M3 b3 _ hc3 => ?_⟩)
    rw [rep_atom] at hc3
    obtain ⟨cv, rfl, hcv⟩ := hc3
    obtain ⟨ca, cc, rfl, -, -⟩ := hcv.sl
    have s3' : Step S0 u2 h2 u3 h3 := s3.mono fun _ _ hj => by cases hj.1
    have A3 := A2.step0 s3'
    have R3 := R2.step0 s3'
    have Q3 := Q2.step0 s3'
    have o3 := o2.step0 s3'
    have st3 := st2.trans0 s3'
    have hq3 := Q3.1
    refine ⟨by simp (disch := first | omega | (simp only [zz]; try omega; done)) only [↓reduceIte, go_sem, e3, Q2.at, Q3.at, Q3.2.1], ?_⟩
    simp (disch := first | omega | (simp only [zz]; try omega; done)) only [↓reduceIte, go_sem, e3, Q3.at, Q3.2.1]
    refine effS_app1o rfl o3 (x := clauseM c) (cs := [str (atomM false (bodyV c.2) c.1).1, .slice ca (atomM false (bodyV c.2) c.1).2.1.length cc, .int .i64 (atomM false (bodyV c.2) c.1).2.2, .slice wa (bodyM c.2).length wc]) (by rw [rep_clause]; exact ⟨_, _, rfl, hcv, hw.mono s3'.ge⟩) rfl rfl st3.ge.sz (by rw [List.length_map, List.length_take]; omega) fun a6 n6 c6 u6 h6 o6 s6 b6 => ⟨by simp (disch := first | omega | (simp only [zz]; try omega; done)) only [go_sem], ?_⟩
    have n6' : ∀ j, OwnB (.slice a6 n6 c6) j → h.size + 3 ≤ j := fun j hj => (b6 j hj).elim (nQ j) (fun h => by omega)
    have A6 := A3.step s6 (fun hj => by have := nQ _ hj; omega)
    have R6 := R3.step s6 (fun hj => by have := nQ _ hj; omega)
    have Q6 := Q3.step s6 (fun hj => by have := nQ _ hj; omega)
    have hq6 := Q6.1
    have sw : Step (fun j => j = h.size + 2) u6 h6 u6 (hset h6 (h.size + 2) 0 (.slice a6 n6 c6)) := Step.set u6 h6 _ rfl (by rw [Q6.2.2.2.1]; exact Nat.le_refl _)
    simp (disch := first | omega | (simp only [zz]; try omega; done)) only [↓reduceIte, go_sem, e3, e4, Q6.2.1, Q6.2.2.1]
    refine ⟨i + 1, ?_, by omega⟩
    rw [hI]
    exact ⟨by simp [upd, e1], by simp [upd, e2], by simp [upd, e3], by simp [upd], hlt, u6, _, (st3.trans s6 (fun j hj hB => by have := nQ j hB; omega)).trans sw (fun j hj e => by have e : j = h.size + 2 := e; omega), by rw [hsn]; exact o6.step sw (fun j hj e => by have e : j = h.size + 2 := e; have := n6' j hj; omega),
      A6.step sw (fun e => by have e : h.size = h.size + 2 := e; omega), R6.step sw (fun e => by have e : h.size + 1 = h.size + 2 := e; omega), Q6.set (i := 0) (v := .slice a6 n6 c6) (by simp), n6'⟩
  · obtain rfl : i = P.length := by omega
    rw [List.take_length] at ho
    obtain ⟨qa, qc, rfl, -, -⟩ := ho.sl
    have hnot : ¬ ((P.length : Int) < p.length ∧ (P.length : Int) < 200) := by rw [hmin]; split <;> omega
    have sw : Step (fun j => j = h.size + 1) u' h' u' (hset h' (h.size + 1) 0 (.slice qa (P.map clauseM).length qc)) := Step.set u' h' _ rfl (by rw [R.2.2.2.1]; exact Nat.le_refl _)
    have fin : K (.agg #[Go.Ev.hv (hset h' (h.size + 1) 0 (.slice qa (P.map clauseM).length qc)) (h.size + 1) 0]) (hset h' (h.size + 1) 0 (.slice qa (P.map clauseM).length qc)) := by
      have R7 := R.set (i := 0) (v := .slice qa (P.map clauseM).length qc) (by simp)
      have e7 := R7.at 0 (by simp)
      simp only [List.set_cons_zero, List.getD_cons_zero] at e7
      rw [e7]
      exact hK u' _ _ (st.trans sw (fun j hj e => by have e : j = h.size + 1 := e; omega)) (by unfold rightF; rw [← hP]; exact ho.isSl.mono sw.ge)
    by_cases hc1 : (P.length : Int) < p.length
    · have hc2 : ¬ (P.length : Int) < 200 := fun h => hnot ⟨hc1, h⟩
      simp (disch := first | omega | (simp only [zz]; try omega; done)) only [↓reduceIte, go_sem, klRight_L1, e1, e2, e3, e4, A.at, A.2.1, eq_true (show P.length < p.length by omega), eq_false hc2, Q.at, Q.2.1, R.2.1, R.2.2.1]
      exact fin
    · simp (disch := first | omega | (simp only [zz]; try omega; done)) only [↓reduceIte, go_sem, klRight_L1, e1, e2, e3, e4, A.at, A.2.1, eq_false (show ¬ P.length < p.length by omega), Q.at, Q.2.1, R.2.1, R.2.2.1]
      exact fin
def C_given (vs : List Value) (h : H) (K : Value → H → Prop) : Prop := ∃ (u : U) (v : Value) (fs : List Atom), vs = [v] ∧ IsSl u h v fs ∧ (∀ a ∈ fs, AtB a) ∧ ∀ u' h' w, Step S0 u h u' h' → IsSl u' h' w (givenF fs) → K w h'
def G_klGiven : Ctr := fun f vs h K _ => f = 24 ∧ C_mAtom vs h K
theorem G_klGiven_ok : GOk Try.prog G_klGiven := by
  rintro f vs h K KP ⟨rfl, hC⟩; exact klAtom_ok hC
theorem klGiven_ok {vs : List Value} {h : H} {K : Value → H → Prop} {KP : List PanicEntry → H → Prop} (hC : C_given vs h K) : HCX Try.prog 8 vs h K KP := by
  obtain ⟨u, v, fs, rfl, hl, hCB, hK⟩ := hC
  obtain ⟨la, lc, rfl, q1, q2⟩ := hl.sl
  have hm := mlen'
  obtain ⟨P, hP⟩ : ∃ P, P = fs.take 4096 := ⟨_, rfl⟩
  have hn : P.length ≤ 4096 := by rw [hP, List.length_take]; exact Nat.min_le_left _ _
  have hmin : P.length = if 4096 < fs.length then 4096 else fs.length := by rw [hP, List.length_take]; split <;> omega
  refine klGiven_H G_klGiven G_klGiven_ok _ ?_
  simp (disch := first | omega | (simp only [zz]; try omega; done)) only [go_sem, klGiven_S, klGiven_E]
  obtain ⟨I, hI⟩ : ∃ I : Nat → Env → H → Prop, I = fun i σ h' => σ 0 = .slice la fs.length lc ∧ σ 4 = .int .i64 i ∧ i ≤ P.length ∧ ∃ (u' : U), Step S0 u h u' h' ∧ Own h.size u' h' (σ 3) ((P.take i).map (atomM false [])) := ⟨_, rfl⟩
  refine wpS_loop I (fun i => P.length - i) 0 (by
    rw [hI]
    exact ⟨by simp [upd], by simp [upd], Nat.zero_le _, u, .refl _ _ _, by simp only [upd]; exact .nil _ _ _⟩) ?_
  intro i σ h' hy
  rw [hI] at hy
  obtain ⟨e0, e4, hi, u', st, ho⟩ := hy
  by_cases hlt : i < P.length
  · obtain ⟨c, hs⟩ : ∃ c, P[i]? = some c := ⟨P[i], by simp [hlt]⟩
    have hsa : fs[i]? = some c := by rw [hP, List.getElem?_take] at hs; split at hs; exact hs; cases hs
    have hil := (List.getElem?_eq_some_iff.1 hsa).1
    have hsn : (P.take (i + 1)).map (atomM false []) = (P.take i).map (atomM false []) ++ [atomM false [] c] := by rw [List.take_add_one, hs, Option.toList_some, List.map_append]; rfl
    have hCx := hCB c (List.mem_of_getElem? hsa)
    obtain ⟨pb, po, rfl, hpb, hpu, hpz, hpr⟩ := (hl.mono st.ge).row i c hsa
    rw [rep_atom] at hpr
    obtain ⟨va, hpr, hh⟩ := hpr
    obtain ⟨ha, hc, rfl, -, -⟩ := hh.sl
    simp only [sz_atom, hvs_3, List.cons.injEq, and_true] at hpr hpu hpz
    obtain ⟨l0, l1, l2⟩ := hpr
    have sM := Step.push0 S0 u' h' #[.slice none 0 0] 84
    have B : Blk (ub u' h'.size 0) (h'.push (.cells #[.slice none 0 0] 84)) h'.size [.slice none 0 0] := (Blk.mk (by simp only [e_psz]; omega) (by simp (disch := first | omega | (simp only [zz]; try omega; done)) only [go_sem]) (by simp (disch := first | omega | (simp only [zz]; try omega; done)) only [go_sem]) (by repeat (first | (refine ub_at ?_; simp only []; done) | apply ub_zero)) (by simp (disch := first | omega | (simp only [zz]; try omega; done)) only [go_sem]))
    have M : MkS h'.size (ub u' h'.size 0) (h'.push (.cells #[.slice none 0 0] 84)) h'.size (.slice none 0 0) [] := ⟨B, .nil _ _ _, ownb_none, Nat.le_refl _, by simp only [e_psz]; omega⟩
    simp (disch := first | omega | (simp only [zz]; try omega; done)) only [↓reduceIte, go_sem, klGiven_L1, e0, e4, hil, eq_true (show (i : Int) < 4096 by omega), l0, l1, l2]
    refine effS_call ⟨rfl, h'.size, ub u' h'.size 0, h'.size, _, [], c, [str c.1, .slice ha c.2.1.length hc, .int .i64 c.2.2], false, rfl, by rw [rep_atom]; exact ⟨_, rfl, hh.mono sM.ge⟩, hCx, M, Nat.zero_le _, fun u3 h3 vV3 c3 s3 M3 b3 _ hc3 => ⟨by simp (disch := first | omega | (simp only [zz]; try omega; done)) only [go_sem], ?_⟩⟩
    rw [rep_atom] at hc3
    obtain ⟨cv, rfl, hcv⟩ := hc3
    obtain ⟨ca, cc, rfl, -, -⟩ := hcv.sl
    have s3' : Step S0 u' h' u3 h3 := sM.trans s3 fun _ _ hj => by cases hj.1
    have o3 := ho.step0 s3'
    have st3 := st.trans0 s3'
    have hob : ∀ j, OwnB (σ 3) j → h.size ≤ j := fun j hj => ho.ge hj
    simp (disch := first | omega | (simp only [zz]; try omega; done)) only [↓reduceIte, go_sem]
    refine effS_app1o rfl o3 (x := atomM false [] c) (cs := [str (atomM false [] c).1, .slice ca (atomM false [] c).2.1.length cc, .int .i64 (atomM false [] c).2.2]) (by rw [rep_atom]; exact ⟨_, rfl, hcv⟩) rfl rfl st3.ge.sz (by rw [List.length_map, List.length_take]; omega) fun a6 n6 c6 u6 h6 o6 s6 b6 => ⟨by simp (disch := first | omega | (simp only [zz]; try omega; done)) only [go_sem], ?_⟩
    simp (disch := first | omega | (simp only [zz]; try omega; done)) only [↓reduceIte, go_sem, e4]
    refine ⟨i + 1, ?_, by omega⟩
    rw [hI]
    exact ⟨by simp [upd, e0], by simp [upd], hlt, u6, st3.trans s6 (fun j hj hB => by have := hob j hB; omega), by rw [hsn]; simpa [upd] using o6⟩
  · obtain rfl : i = P.length := by omega
    rw [List.take_length] at ho
    have hnot : ¬ ((P.length : Int) < fs.length ∧ (P.length : Int) < 4096) := by rw [hmin]; split <;> omega
    have fin : K (σ 3) h' := hK u' h' _ st (by unfold givenF; rw [← hP]; exact ho.isSl)
    by_cases hc1 : (P.length : Int) < fs.length
    · have hc2 : ¬ (P.length : Int) < 4096 := fun h => hnot ⟨hc1, h⟩
      simp (disch := first | omega | (simp only [zz]; try omega; done)) only [↓reduceIte, go_sem, klGiven_L1, e0, e4, eq_true (show P.length < fs.length by omega), eq_false hc2]
      exact fin
    · simp (disch := first | omega | (simp only [zz]; try omega; done)) only [↓reduceIte, go_sem, klGiven_L1, e0, e4, eq_false (show ¬ P.length < fs.length by omega)]
      exact fin
end Go.Proofs.Ytkobamedfbgjbaa
