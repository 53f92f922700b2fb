import Derived.Test.YtkobamedfbgjbaaReadW
section Merged
namespace Edict
theorem cst_ne2 {a b : Const} (h : a ≠ b) : (decide (a.1 = b.1) && (decide (a.2.1 = b.2.1) && decide (a.2.2 = b.2.2))) = false := by
  cases hd : (decide (a.1 = b.1) && (decide (a.2.1 = b.2.1) && decide (a.2.2 = b.2.2))) with
  | false => rfl
  | true =>
    simp only [Bool.and_eq_true, decide_eq_true_eq] at hd
    exact absurd (Prod.ext hd.1 (Prod.ext hd.2.1 hd.2.2)) h
end Edict
namespace Go.Proofs.Ytkobamedfbgjbaa
open Go Go.Ev Edict
def C_kfact (vs : List Value) (h : H) (K : Value → H → Prop) : Prop := ∃ (u : U) (a : Atom) (l : List Value), vs = [.agg l.toArray] ∧ Rep.rep u h a l ∧ a.2.1.length ≤ 1048576 ∧ ∀ u' h' l', Step S0 u h u' h' → Rep.rep u' h' (factOf a) l' → K (.agg l'.toArray) h'
theorem klFact_ok {vs : List Value} {h : H} {K : Value → H → Prop} {KP : List PanicEntry → H → Prop} (hC : C_kfact vs h K) : HCX Try.prog 44 vs h K KP := by
  obtain ⟨u, a, l, rfl, hr, hal, hK⟩ := hC
  rw [rep_atom] at hr
  obtain ⟨av, rfl, hav⟩ := hr
  obtain ⟨aa, ac, rfl, q1, q2⟩ := hav.sl
  have hm := mlen'
  refine klFact_H (fun _ _ _ _ _ => False) (fun _ _ _ _ _ h => h.elim) _ ?_
  have s1 := Step.push0 S0 u h #[str a.1, .slice aa a.2.1.length ac, .int .i64 a.2.2] 45
  have B1 : Blk (ub u h.size 0) (h.push (.cells #[str a.1, .slice aa a.2.1.length ac, .int .i64 a.2.2] 45)) h.size [str a.1, .slice aa a.2.1.length ac, .int .i64 a.2.2] := Blk.new [str a.1, .slice aa a.2.1.length ac, .int .i64 a.2.2] _
  have s2 := Step.push0 S0 (ub u h.size 0) (h.push (.cells #[str a.1, .slice aa a.2.1.length ac, .int .i64 a.2.2] 45)) #[str [], .slice none 0 0] 75
  have B2 : Blk (ub (ub u h.size 0) (h.push (.cells #[str a.1, .slice aa a.2.1.length ac, .int .i64 a.2.2] 45)).size 0) ((h.push (.cells #[str a.1, .slice aa a.2.1.length ac, .int .i64 a.2.2] 45)).push (.cells #[str [], .slice none 0 0] 75)) (h.size + 1) [str [], .slice none 0 0] := (Blk.mk (by simp only [e_psz]; omega) (by simp (disch := first | omega | (simp only [zz]; try omega; done)) only [go_sem]) (by simp (disch := first | omega | (simp only [zz]; try omega; done)) only [go_sem]) (by repeat (first | (refine ub_at ?_; simp only [e_psz]; done) | apply ub_zero)) (by simp (disch := first | omega | (simp only [zz]; try omega; done)) only [go_sem]))
  have B12 := B1.step0 s2
  have st2 := s1.trans0 s2
  simp (disch := first | omega | (simp only [zz]; try omega; done)) only [↓reduceIte, go_sem, klFact_S, klFact_E]
  generalize ub (ub u h.size 0) (h.push (.cells #[str a.1, .slice aa a.2.1.length ac, .int .i64 a.2.2] 45)).size 0 = u2 at B2 B12 st2
  obtain ⟨h2, hh2⟩ : ∃ h2, h2 = (h.push (.cells #[str a.1, .slice aa a.2.1.length ac, .int .i64 a.2.2] 45)).push (.cells #[str [], .slice none 0 0] 75) := ⟨_, rfl⟩
  have hs2 : h2.size = h.size + 1 + 1 := by rw [hh2]; simp only [e_psz]
  rw [← hh2] at B2 B12 st2 ⊢
  clear hh2 s1 s2 B1
  have s3 := Step.push0 S0 u2 h2 #[str a.1, .slice none 0 0] 75
  have B3 : Blk (ub u2 h2.size 0) (h2.push (.cells #[str a.1, .slice none 0 0] 75)) h2.size [str a.1, .slice none 0 0] := Blk.new [str a.1, .slice none 0 0] _
  rw [hs2] at B3 s3
  have st3 := st2.trans0 s3
  have hav3 := hav.mono st3.ge
  obtain ⟨I, hI⟩ : ∃ I : Nat → Env → H → Prop, I = fun i σ h' => σ 1 = .pointer (some ⟨h.size, 0, none⟩) ∧ σ 2 = .pointer (some ⟨h.size + 1, 0, none⟩) ∧ σ 3 = .pointer (some ⟨h.size + 1 + 1, 0, none⟩) ∧ σ 4 = .int .i64 i ∧ i ≤ a.2.1.length ∧
    ∃ (u' : U) (vA : Value), Step S0 u h u' h' ∧ Own (h.size + 3) u' h' vA ((a.2.1.take i).map cnst) ∧ Blk u' h' h.size [str a.1, .slice aa a.2.1.length ac, .int .i64 a.2.2] ∧ Blk u' h' (h.size + 1) [str [], .slice none 0 0] ∧ Blk u' h' (h.size + 1 + 1) [str a.1, vA] ∧ IsSl u' h' (.slice aa a.2.1.length ac) a.2.1 := ⟨_, rfl⟩
  refine wpS_loop I (fun i => a.2.1.length - i) 0 (by rw [hI]; exact ⟨by simp [upd], by simp [upd], by simp [upd], by simp [upd], Nat.zero_le _, _, .slice none 0 0, st3, .nil _ _ _, B12.step0 s3, B2.step0 s3, B3, hav3⟩) ?_
  clear B12 B2 B3 st3 st2 s3 hav3 hav
  intro i σ h1 hy
  rw [hI] at hy
  obtain ⟨e1, e2, e3, e4, hi, u1, vA, st, oA, B1, B2, B3, hav⟩ := hy
  have b1 := B1.1
  have b2 := B2.1
  have b3 := B3.1
  by_cases hlt : i < a.2.1.length
  · obtain ⟨t, hs⟩ : ∃ t, a.2.1[i]? = some t := ⟨a.2.1[i], by simp [hlt]⟩
    have htk : (a.2.1.take (i + 1)).map cnst = (a.2.1.take i).map cnst ++ [cnst t] := by rw [List.take_add_one, hs]; simp
    have hlk : ((a.2.1.take i).map cnst).length = i := by rw [List.length_map, List.length_take]; omega
    have havk := hav
    obtain ⟨pb, po, rfl, hpb, hpu, hpz, hpr⟩ := hav.row i t hs
    simp only [rep_term, Term.enc, sz_term, hvs_4, List.cons.injEq, and_true] at hpr hpu hpz
    obtain ⟨l0, l1, l2, l3⟩ := hpr
    simp (disch := first | omega | (simp only [zz]; try omega; done)) only [↓reduceIte, go_sem, klFact_L1, e1, e3, e4, B1.at, B1.2.1, B3.at, B3.2.1, hlt, l0, l1, l2]
    refine effS_app1o rfl oA (x := cnst t) (cs := [.int .i64 t.1, .int .i64 t.2.1, str t.2.2.1]) (by rw [rep_const]; rfl) rfl rfl (by omega) (by rw [hlk]; omega) fun a3 n3 c3' u3 h3 o3 s3 b3' => ⟨by simp (disch := first | omega | (simp only [zz]; try omega; done)) only [go_sem], ?_⟩
    have ne : ∀ j, OwnB vA j → h.size + 3 ≤ j := fun j hj => oA.ge hj
    have D1 := B1.step s3 (fun hj => by have := ne _ hj; omega)
    have D2 := B2.step s3 (fun hj => by have := ne _ hj; omega)
    have D3 := B3.step s3 (fun hj => by have := ne _ hj; omega)
    have st3 := st.own s3 (fun j hj => by have := ne _ hj; omega)
    have sw := D3.stepSet (i := 1) (v := .slice a3 n3 c3')
    have E3 := D3.set (i := 1) (v := .slice a3 n3 c3') (by simp)
    have d3 := D3.1
    have x3 := D3.2.1
    have y3 := D3.2.2.1
    simp (disch := first | omega | (simp only [zz]; try omega; done)) only [↓reduceIte, go_sem, e3, e4, x3, y3]
    refine ⟨i + 1, ?_, by omega⟩
    rw [hI]
    refine ⟨by simp [upd, e1], by simp [upd, e2], by simp [upd, e3], by simp [upd], hlt, u3, _, st3.own sw (fun j e => by have e : j = h.size + 1 + 1 := e; omega), ?_, D1.step sw (by omega), D2.step sw (by omega), E3, (havk.mono s3.ge).mono sw.ge⟩
    rw [htk]
    exact o3.step sw (fun j hj e => by have := o3.ge hj; have e : j = h.size + 1 + 1 := e; omega)
  · obtain rfl : i = a.2.1.length := by omega
    rw [List.take_length] at oA
    have hA := oA.isSl
    obtain ⟨xa, xc, rfl, -, -⟩ := oA.sl
    have sw := B2.stepSets (l := [str a.1, .slice xa (a.2.1.map cnst).length xc]) rfl
    have E2 := B2.sets (l := [str a.1, .slice xa (a.2.1.map cnst).length xc]) rfl
    simp (disch := first | omega | (simp only [zz]; try omega; done)) only [↓reduceIte, go_sem, klFact_L1, e1, e2, e3, e4, B1.at, B1.2.1, B3.at, B3.2.1, B2.2.1, B2.2.2.1, E2.at, E2.2.1]
    exact hK _ _ [_, _] (st.own sw (fun j e => by have e : j = h.size + 1 := e; omega)) (by rw [rep_fact]; exact ⟨_, rfl, hA.mono sw.ge⟩)
def C_same (vs : List Value) (h : H) (K : Value → H → Prop) : Prop := ∃ (u : U) (a b : Fact) (la lb : List Value), vs = [.agg la.toArray, .agg lb.toArray] ∧ Rep.rep u h a la ∧ Rep.rep u h b lb ∧ ∀ u' h', Step S0 u h u' h' → K (.bool (decide (a = b))) h'
theorem klSameFact_ok {vs : List Value} {h : H} {K : Value → H → Prop} {KP : List PanicEntry → H → Prop} (hC : C_same vs h K) : HCX Try.prog 22 vs h K KP := by
  obtain ⟨u, a, b, la, lb, rfl, ha, hb, hK⟩ := hC
  rw [rep_fact] at ha hb
  obtain ⟨va, rfl, ia⟩ := ha
  obtain ⟨vb, rfl, ib⟩ := hb
  obtain ⟨xa, xc, rfl, q1, q2⟩ := ia.sl
  obtain ⟨ya, yc, rfl, -, -⟩ := ib.sl
  have hm := mlen'
  refine klSameFact_H (fun _ _ _ _ _ => False) (fun _ _ _ _ _ h => h.elim) _ _ ?_
  have s1 := Step.push0 S0 u h #[str a.1, .slice xa a.2.length xc] 75
  have A1 : Blk (ub u h.size 0) (h.push (.cells #[str a.1, .slice xa a.2.length xc] 75)) h.size [str a.1, .slice xa a.2.length xc] := Blk.new [str a.1, .slice xa a.2.length xc] _
  have s2 := Step.push0 S0 (ub u h.size 0) (h.push (.cells #[str a.1, .slice xa a.2.length xc] 75)) #[str b.1, .slice ya b.2.length yc] 75
  have A2 : Blk (ub (ub u h.size 0) (h.push (.cells #[str a.1, .slice xa a.2.length xc] 75)).size 0) ((h.push (.cells #[str a.1, .slice xa a.2.length xc] 75)).push (.cells #[str b.1, .slice ya b.2.length yc] 75)) (h.size + 1) [str b.1, .slice ya b.2.length yc] := (Blk.mk (by simp only [e_psz]; omega) (by simp (disch := first | omega | (simp only [zz]; try omega; done)) only [go_sem]) (by simp (disch := first | omega | (simp only [zz]; try omega; done)) only [go_sem]) (by repeat (first | (refine ub_at ?_; simp only [e_psz]; done) | apply ub_zero)) (by simp (disch := first | omega | (simp only [zz]; try omega; done)) only [go_sem]))
  have A12 := A1.step0 s2
  have st := s1.trans0 s2
  have ja := ia.mono st.ge
  have jb := ib.mono st.ge
  by_cases h1 : a.1 = b.1
  · by_cases h2 : a.2.length = b.2.length
    · simp (disch := first | omega | (simp only [zz]; try omega; done)) only [↓reduceIte, go_sem, klSameFact_S, klSameFact_E, eq_true h1, h2]
      rw [h2] at A12 st ja jb A2
      generalize ub (ub u h.size 0) (h.push (.cells #[str a.1, .slice xa b.2.length xc] 75)).size 0 = u2 at A12 A2 st ja jb
      generalize (h.push (.cells #[str a.1, .slice xa b.2.length xc] 75)).push (.cells #[str b.1, .slice ya b.2.length yc] 75) = h2' at A12 A2 st ja jb ⊢
      have l1 := A12.1
      have l2 := A2.1
      obtain ⟨I, hI⟩ : ∃ I : Nat → Env → H → Prop, I = fun i σ h' => h' = h2' ∧ σ 2 = .pointer (some ⟨h.size, 0, none⟩) ∧ σ 3 = .pointer (some ⟨h.size + 1, 0, none⟩) ∧ σ 5 = .int .i64 i ∧ i ≤ b.2.length ∧ a.2.take i = b.2.take i := ⟨_, rfl⟩
      refine wpS_loop I (fun i => b.2.length - i) 0 (by rw [hI]; exact ⟨rfl, by simp [upd], by simp [upd], by simp [upd], Nat.zero_le _, by simp⟩) ?_
      intro i σ h' hy
      rw [hI] at hy
      obtain ⟨rfl, e2, e3, e5, hi, htk⟩ := hy
      by_cases hlt : i < b.2.length
      · obtain ⟨x, hx⟩ : ∃ x, a.2[i]? = some x := ⟨a.2[i]'(by omega), by simp [h2, hlt]⟩
        obtain ⟨y, hy⟩ : ∃ x, b.2[i]? = some x := ⟨b.2[i], by simp [hlt]⟩
        obtain ⟨pb, po, rfl, hpb, hpu, hpz, hpr⟩ := ja.row i x hx
        obtain ⟨qb, qo, rfl, hqb, hqu, hqz, hqr⟩ := jb.row i y hy
        rw [rep_const] at hpr hqr
        simp only [sz_const, hvs_3, List.cons.injEq, and_true] at hpr hpu hpz hqr hqu hqz
        obtain ⟨c0, c1, c2⟩ := hpr
        obtain ⟨d0, d1, d2⟩ := hqr
        by_cases he : x = y
        · have x1 : x.1 = y.1 := by rw [he]
          have x2 : x.2.1 = y.2.1 := by rw [he]
          have x3 : x.2.2 = y.2.2 := by rw [he]
          simp (disch := first | omega | (simp only [zz]; try omega; done)) only [↓reduceIte, go_sem, klSameFact_L1, e2, e3, e5, A12.at, A12.2.1, A2.at, A2.2.1, hlt, c0, c1, c2, d0, d1, d2, eq_true x1, eq_true x2, eq_true x3]
          refine ⟨i + 1, ?_, by omega⟩
          rw [hI]
          exact ⟨rfl, by simp [upd, e2], by simp [upd, e3], by simp [upd], hlt, by rw [List.take_add_one, List.take_add_one, htk, hx, hy, he]⟩
        · have hne := cst_ne2 he
          simp (disch := first | omega | (simp only [zz]; try omega; done)) only [↓reduceIte, go_sem, klSameFact_L1, e2, e3, e5, A12.at, A12.2.1, A2.at, A2.2.1, hlt, c0, c1, c2, d0, d1, d2, hne]
          have := hK _ _ st
          rw [decide_eq_false (fun e => he (by rw [e, hy] at hx; exact (Option.some.inj hx).symm))] at this
          exact this
      · obtain rfl : i = b.2.length := by omega
        simp (disch := first | omega | (simp only [zz]; try omega; done)) only [↓reduceIte, go_sem, klSameFact_L1, e2, e5, A12.at, A12.2.1]
        have := hK _ _ st
        rw [List.take_length, ← h2, List.take_length] at htk
        rw [decide_eq_true (Prod.ext h1 htk)] at this
        exact this
    · simp (disch := first | omega | (simp only [zz]; try omega; done)) only [↓reduceIte, go_sem, klSameFact_S, klSameFact_E, eq_true h1, eq_false (show ¬ (a.2.length : Int) = b.2.length by omega)]
      have := hK _ _ st
      rw [decide_eq_false (fun e => h2 (by rw [e]))] at this
      exact this
  · simp (disch := first | omega | (simp only [zz]; try omega; done)) only [↓reduceIte, go_sem, klSameFact_S, klSameFact_E, eq_false h1]
    have := hK _ _ st
    rw [decide_eq_false (fun e => h1 (by rw [e]))] at this
    exact this
end Go.Proofs.Ytkobamedfbgjbaa
end Merged
section Merged
namespace Edict
theorem heads_snoc {l : List Clause} {i : Nat} {c : Clause} (h : l[i]? = some c) : headsF (l.take (i + 1)) = headsF (l.take i) ++ (if c.2 = [] then [c.1] else []) := by
  rw [List.take_add_one, h]
  unfold headsF
  rw [List.filter_append, List.map_append]
  congr 1
  by_cases hc : c.2 = []
  · rw [if_pos hc, Option.toList_some, List.filter_cons_of_pos (by simp [hc])]; rfl
  · rw [if_neg hc, Option.toList_some, List.filter_cons_of_neg (by simp [hc])]; rfl
theorem heads_len (l : List Clause) : (headsF l).length ≤ l.length := by unfold headsF; rw [List.length_map]; exact List.length_filter_le _ _
def accF (l : List Atom) : List Fact := l.foldl (fun l a => addF l (factOf a)) []
theorem acc_snoc {l : List Atom} {i : Nat} {a : Atom} (h : l[i]? = some a) : accF (l.take (i + 1)) = addF (accF (l.take i)) (factOf a) := by
  rw [List.take_add_one, h]
  unfold accF
  rw [List.foldl_append]; rfl
theorem addF_len (l : List Fact) (f : Fact) : (addF l f).length ≤ l.length + 1 := by unfold addF; split <;> simp
theorem acc_len : ∀ (l : List Atom) (fs : List Fact), (l.foldl (fun l a => addF l (factOf a)) fs).length ≤ fs.length + l.length
  | [], _ => Nat.le_refl _
  | a :: l, fs => by
    have h1 := acc_len l (addF fs (factOf a))
    have h2 := addF_len fs (factOf a)
    simp only [List.foldl_cons, List.length_cons]; omega
end Edict
namespace Go.Proofs.Ytkobamedfbgjbaa
open Go Go.Ev Edict
theorem sz_factK : Rep.sz Fact = 2 := rfl
def C_init (vs : List Value) (h : H) (K : Value → H → Prop) : Prop := ∃ (u : U) (v w : Value) (p : List Clause) (g : List Atom), vs = [.agg #[v], w] ∧ IsSl u h v p ∧ IsSl u h w g ∧ p.length ≤ 1048576 ∧ g.length ≤ 1048576 ∧ (∀ c ∈ p, c.1.2.1.length ≤ 1048576) ∧ (∀ a ∈ g, a.2.1.length ≤ 1048576) ∧
  ∀ u' h' v', Step S0 u h u' h' → IsSl u' h' v' (initF p g) → K v' h'
def G_klInit : Ctr := fun f vs h K _ => (f = 44 ∧ C_kfact vs h K) ∨ (f = 22 ∧ C_same vs h K)
theorem G_klInit_ok : GOk Try.prog G_klInit := by
  rintro f vs h K KP (⟨rfl, hC⟩ | ⟨rfl, hC⟩)
  · exact klFact_ok hC
  · exact klSameFact_ok hC
theorem klInitial_ok {vs : List Value} {h : H} {K : Value → H → Prop} {KP : List PanicEntry → H → Prop} (hC : C_init vs h K) : HCX Try.prog 20 vs h K KP := by
  obtain ⟨u, v, w, p, g, rfl, hl, hlg, hpl, hgl, hpa, hga, hK⟩ := hC
  obtain ⟨la, lc, rfl, q1, q2⟩ := hl.sl
  obtain ⟨ga, gc, rfl, q3, q4⟩ := hlg.sl
  have hm := mlen'
  refine klInitial_H G_klInit G_klInit_ok _ _ ?_
  have s1 := Step.push0 S0 u h #[.slice la p.length lc] 24
  have B2 : Blk (ub u h.size 0) (h.push (.cells #[.slice la p.length lc] 24)) h.size [.slice la p.length lc] := Blk.new [.slice la p.length lc] _
  have hl1 := hl.mono s1.ge
  simp (disch := first | omega | (simp only [zz]; try omega; done)) only [↓reduceIte, go_sem, klInitial_S, klInitial_E]
  obtain ⟨I, hI⟩ : ∃ I : Nat → Env → H → Prop, I = fun i σ h' => σ 1 = .slice ga g.length gc ∧ σ 2 = .pointer (some ⟨h.size, 0, none⟩) ∧ σ 6 = .int .i64 i ∧ i ≤ p.length ∧
    ∃ (u' : U) (vA : Value), σ 5 = vA ∧ Step S0 u h u' h' ∧ Own (h.size + 1) u' h' vA (headsF (p.take i)) ∧ Blk u' h' h.size [.slice la p.length lc] ∧ IsSl u' h' (.slice la p.length lc) p := ⟨_, rfl⟩
  refine wpS_loop I (fun i => p.length - i) 0 (by rw [hI]; exact ⟨by simp [upd], by simp [upd], by simp [upd], Nat.zero_le _, _, .slice none 0 0, by simp [upd], s1, .nil _ _ _, B2, hl1⟩) ?_
  clear B2 hl1 s1
  intro i σ h' hy
  rw [hI] at hy
  obtain ⟨e1, e2, e6, hi, u', vA, e5, st, oA, B2, hl1⟩ := hy
  have b2 := B2.1
  by_cases hlt : i < p.length
  · obtain ⟨x, hs⟩ : ∃ x, p[i]? = some x := ⟨p[i], by simp [hlt]⟩
    have hsn := heads_snoc hs
    have hlk := hl1
    have hhl := heads_len (p.take i)
    rw [List.length_take] at hhl
    obtain ⟨pb, po, rfl, hpb, hpu, hpz, hpr⟩ := hl1.row i x hs
    rw [rep_clause] at hpr
    obtain ⟨va, vb, hpr, hh, hbd⟩ := hpr
    obtain ⟨xa, xc, rfl, -, -⟩ := hh.sl
    obtain ⟨ba, bc, rfl, -, -⟩ := hbd.sl
    simp only [sz_clause, hvs_4, List.cons.injEq, and_true] at hpr hpu hpz
    obtain ⟨l0, l1, l2, l3⟩ := hpr
    by_cases hx : x.2 = []
    · rw [if_pos hx] at hsn
      simp (disch := first | omega | (simp only [zz]; try omega; done)) only [↓reduceIte, go_sem, klInitial_L1, e2, e5, e6, B2.at, B2.2.1, hlt, l0, l1, l2, l3, eq_true (show (x.2.length : Int) = 0 by rw [hx]; rfl)]
      have hz := st.ge.sz
      refine effS_app1o rfl oA (x := x.1) (cs := [str x.1.1, .slice xa x.1.2.1.length xc, .int .i64 x.1.2.2]) (by rw [rep_atom]; exact ⟨_, rfl, hh⟩) rfl rfl (by omega) (by omega) fun a3 n3 c3 u3 h3 o3 s3 b3' => ⟨by simp (disch := first | omega | (simp only [zz]; try omega; done)) only [go_sem], ?_⟩
      have st3 := st.own s3 (fun j hj => by have := oA.ge hj; omega)
      simp (disch := first | omega | (simp only [zz]; try omega; done)) only [↓reduceIte, go_sem, e6]
      refine ⟨i + 1, ?_, by omega⟩
      rw [hI]
      exact ⟨by simp [upd, e1], by simp [upd, e2], by simp [upd], hlt, u3, .slice a3 n3 c3, by simp [upd], st3, by rw [hsn]; exact o3, B2.step s3 (fun hj => by have := oA.ge hj; omega), hlk.mono s3.ge⟩
    · rw [if_neg hx, List.append_nil] at hsn
      simp (disch := first | omega | (simp only [zz]; try omega; done)) only [↓reduceIte, go_sem, klInitial_L1, e2, e6, B2.at, B2.2.1, hlt, l3, eq_false (show ¬ (x.2.length : Int) = 0 by have := List.length_pos_iff.2 hx; omega)]
      refine ⟨i + 1, ?_, by omega⟩
      rw [hI]
      exact ⟨by simp [upd, e1], by simp [upd, e2], by simp [upd], hlt, u', vA, by simp [upd, e5], st, by rw [hsn]; exact oA, B2, hlk⟩
  · obtain rfl : i = p.length := by omega
    rw [List.take_length] at oA
    have hhl := heads_len p
    simp (disch := first | omega | (simp only [zz]; try omega; done)) only [↓reduceIte, go_sem, klInitial_L1, e1, e2, e5, e6, B2.at, B2.2.1]
    have hz := st.ge.sz
    refine effS_app oA (hlg.mono st.ge) rfl rfl (by omega) (by omega) fun a3 n3 c3 u3 h3 o3 s3 => ⟨by simp (disch := first | omega | (simp only [zz]; try omega; done)) only [go_sem], ?_⟩
    have st3 := st.own s3 (fun j hj => by have := oA.ge hj; omega)
    have hall := o3.isSl
    obtain ⟨A, hA⟩ : ∃ A, A = headsF p ++ g := ⟨_, rfl⟩
    rw [← hA] at hall
    obtain ⟨a3', c3', hae, -, -⟩ := hall.sl
    have hAl : A.length ≤ 2097152 := by rw [hA, List.length_append]; omega
    have hAa : ∀ a ∈ A, a.2.1.length ≤ 1048576 := fun a ha => by
      rw [hA] at ha
      rcases List.mem_append.1 ha with ha | ha
      · unfold headsF at ha
        obtain ⟨c, hc, rfl⟩ := List.mem_map.1 ha
        exact hpa c (List.mem_filter.1 hc).1
      · exact hga a ha
    have hfin : initF p g = accF A := by rw [hA]; rfl
    rw [hfin] at hK
    rw [hae] at hall ⊢
    simp (disch := first | omega | (simp only [zz]; try omega; done)) only [↓reduceIte, go_sem]
    clear hI e1 e2 e5 e6 oA B2 hl1 b2 o3 s3 hlt hae
    obtain ⟨J, hJ⟩ : ∃ J : Nat → Env → H → Prop, J = fun i σ h' => σ 5 = .slice a3' A.length c3' ∧ σ 8 = .int .i64 i ∧ i ≤ A.length ∧
      ∃ (u' : U) (vL : Value), σ 7 = vL ∧ Step S0 u3 h3 u' h' ∧ Own h3.size u' h' vL (accF (A.take i)) ∧ IsSl u' h' (.slice a3' A.length c3') A := ⟨_, rfl⟩
    refine wpS_loop J (fun i => A.length - i) 0 (by rw [hJ]; exact ⟨by simp [upd], by simp [upd], Nat.zero_le _, u3, .slice none 0 0, by simp [upd], .refl _ _ _, .nil _ _ _, hall⟩) ?_
    clear hall
    intro i σ h4 hy
    rw [hJ] at hy
    obtain ⟨e5, e8, hi, u4, vL, e7, s4, oL, hall⟩ := hy
    by_cases hlt : i < A.length
    · obtain ⟨x, hs⟩ : ∃ x, A[i]? = some x := ⟨A[i], by simp [hlt]⟩
      have hsn := acc_snoc hs
      have hxl := hAa x (List.mem_of_getElem? hs)
      have hlk := hall
      have hacl : (accF (A.take i)).length ≤ i := by have := acc_len (A.take i) []; rw [List.length_take] at this; simp only [List.length_nil] at this; unfold accF; omega
      obtain ⟨pb, po, rfl, hpb, hpu, hpz, hpr⟩ := hall.row i x hs
      have hprs := hpr
      rw [rep_atom] at hpr
      obtain ⟨va, hpr, hh⟩ := hpr
      obtain ⟨xa, xc, rfl, -, -⟩ := hh.sl
      rw [hpr] at hprs
      simp only [sz_atom, hvs_3, List.cons.injEq, and_true] at hpr hpu hpz
      obtain ⟨l0, l1, l2⟩ := hpr
      simp (disch := first | omega | (simp only [zz]; try omega; done)) only [↓reduceIte, go_sem, klInitial_L2, e5, e8, hlt, l0, l1, l2]
      refine effS_call (.inl ⟨rfl, u4, x, _, rfl, hprs, hxl, fun u5 h5 l5 s5 hr5 => ⟨by simp (disch := first | omega | (simp only [zz]; try omega; done)) only [go_sem], ?_⟩⟩)
      obtain ⟨f, hf⟩ : ∃ f, f = factOf x := ⟨_, rfl⟩
      rw [← hf] at hr5 hsn
      have hr5k := hr5
      rw [rep_fact] at hr5
      obtain ⟨vf, rfl, hvf⟩ := hr5
      obtain ⟨fa, fc, rfl, -, -⟩ := hvf.sl
      have s6 := Step.push0 S0 u5 h5 #[str f.1, .slice fa f.2.length fc] 75
      have B9 : Blk (ub u5 h5.size 0) (h5.push (.cells #[str f.1, .slice fa f.2.length fc] 75)) h5.size [str f.1, .slice fa f.2.length fc] := Blk.new [str f.1, .slice fa f.2.length fc] _
      have s56 := s5.trans0 s6
      simp (disch := first | omega | (simp only [zz]; try omega; done)) only [↓reduceIte, go_sem]
      obtain ⟨L, hL⟩ : ∃ L : List Fact, L = accF (A.take i) := ⟨_, rfl⟩
      rw [← hL] at oL hsn hacl
      obtain ⟨ya, yc, rfl, -, -⟩ := oL.sl
      obtain ⟨M, hM⟩ : ∃ M : Nat → Env → H → Prop, M = fun j σ h' => σ 5 = .slice (some ⟨pb, po, none⟩) A.length c3' ∧ σ 7 = .slice ya L.length yc ∧ σ 8 = .int .i64 i ∧ σ 9 = .pointer (some ⟨h5.size, 0, none⟩) ∧ σ 11 = .int .i64 j ∧ j ≤ L.length ∧ σ 10 = .bool (decide (f ∈ L.take j)) ∧
        ∃ u' : U, Step S0 u4 h4 u' h' ∧ Blk u' h' h5.size [str f.1, .slice fa f.2.length fc] ∧ IsSl u' h' (.slice fa f.2.length fc) f.2 := ⟨_, rfl⟩
      refine wpS_loop M (fun j => L.length - j) 0 (by rw [hM]; exact ⟨by simp [upd, e5], by simp [upd, e7], by simp [upd, e8], by simp [upd], by simp [upd], Nat.zero_le _, by simp [upd], _, s56, B9, hvf.mono s6.ge⟩) ?_
      clear B9 s56 s6 e5 e7 e8
      intro j σ h6 hy
      rw [hM] at hy
      obtain ⟨e5, e7, e8, e9, e11, hj, e10, u6, s6, B9, hvf6⟩ := hy
      have b9 := B9.1
      have oL6 := oL.step0 s6
      have hz6 := s6.ge.sz
      have hz4 := s4.ge.sz
      have leave : f ∈ L.take j ∨ j = L.length → decide (f ∈ L.take j) = decide (f ∈ L) := fun h => by
        rcases h with h | h
        · rw [decide_eq_true h, decide_eq_true (List.mem_of_mem_take h)]
        · rw [h, List.take_length]
      have out : ∀ σ' : Env, σ' 5 = σ 5 → σ' 7 = σ 7 → σ' 8 = .int .i64 ((i : Int) + 1) → f ∈ L → J (i + 1) σ' h6 := fun σ' g5 g7 g8 hfL => by
        rw [hJ]
        refine ⟨by rw [g5, e5], by rw [g8]; rfl, hlt, u6, _, g7.trans e7, s4.trans0 s6, ?_, hlk.mono s6.ge⟩
        rw [hsn]; unfold addF; rw [if_pos hfL]; exact oL6
      by_cases hold : f ∈ L.take j
      · have hfL := List.mem_of_mem_take hold
        rw [decide_eq_true hold] at e10
        simp (disch := first | omega | (simp only [zz]; try omega; done)) only [↓reduceIte, go_sem, klInitial_L3, e7, e8, e10, e11]
        exact ⟨i + 1, out _ (by simp [upd]) (by simp [upd]) (by simp [upd]) hfL, by omega⟩
      · rw [decide_eq_false hold] at e10
        by_cases hjt : j < L.length
        · obtain ⟨y, hy⟩ : ∃ y, L[j]? = some y := ⟨L[j], by simp [hjt]⟩
          have hL6 := oL6.isSl
          obtain ⟨qb, qo, rfl, hqb, hqu, hqz, hqr⟩ := hL6.row j y hy
          have hqrs := hqr
          rw [rep_fact] at hqr
          obtain ⟨vy, hqr, hvy⟩ := hqr
          obtain ⟨za, zc, rfl, -, -⟩ := hvy.sl
          rw [hqr] at hqrs
          simp only [sz_factK, hvs_2, List.cons.injEq, and_true] at hqr hqu hqz
          obtain ⟨m0, m1⟩ := hqr
          simp (disch := first | omega | (simp only [zz]; try omega; done)) only [↓reduceIte, go_sem, klInitial_L3, e7, e9, e10, e11, hjt, m0, m1, B9.at, B9.2.1]
          refine effS_call (.inr ⟨rfl, u6, y, f, _, _, rfl, hqrs, by rw [rep_fact]; exact ⟨_, rfl, hvf6⟩, fun u7 h7 s7 => ⟨by simp (disch := first | omega | (simp only [zz]; try omega; done)) only [go_sem], ?_⟩⟩)
          simp (disch := first | omega | (simp only [zz]; try omega; done)) only [↓reduceIte, go_sem, e11]
          refine ⟨j + 1, ?_, by omega⟩
          rw [hM]
          refine ⟨by simp [upd, e5], by simp [upd, e7], by simp [upd, e8], by simp [upd, e9], by simp [upd], hjt, ?_, u7, s6.trans0 s7, B9.step0 s7, hvf6.mono s7.ge⟩
          simp only [upd, reduceIte, Nat.reduceEqDiff]
          rw [List.take_add_one, hy]
          congr 1
          rw [decide_eq_decide]
          simp only [Option.toList_some, List.mem_append, List.mem_singleton]
          exact ⟨fun e => .inr e.symm, fun e => (e.resolve_left hold).symm⟩
        · obtain rfl : j = L.length := by omega
          rw [List.take_length] at hold
          simp (disch := first | omega | (simp only [zz]; try omega; done)) only [↓reduceIte, go_sem, klInitial_L3, e7, e9, e10, e11, B9.at, B9.2.1]
          refine effS_app1o rfl oL6 (x := f) (cs := [str f.1, .slice fa f.2.length fc]) (by rw [rep_fact]; exact ⟨_, rfl, hvf6⟩) rfl rfl (by omega) (by omega) fun a8 n8 c8 u8 h8 o8 s8 b8' => ⟨by simp (disch := first | omega | (simp only [zz]; try omega; done)) only [go_sem], ?_⟩
          simp (disch := first | omega | (simp only [zz]; try omega; done)) only [↓reduceIte, go_sem, e8]
          refine ⟨i + 1, ?_, by omega⟩
          rw [hJ]
          refine ⟨by simp [upd, e5], by simp [upd], hlt, u8, .slice a8 n8 c8, by simp [upd], (s4.trans0 s6).own s8 (fun k hk => oL6.ge hk), ?_, (hlk.mono s6.ge).mono s8.ge⟩
          rw [hsn]; unfold addF; rw [if_neg hold]; exact o8
    · obtain rfl : i = A.length := by omega
      rw [List.take_length] at oL
      simp (disch := first | omega | (simp only [zz]; try omega; done)) only [↓reduceIte, go_sem, klInitial_L2, e5, e7, e8]
      exact hK _ _ _ (st3.trans0 s4) oL.isSl
end Go.Proofs.Ytkobamedfbgjbaa
end Merged
