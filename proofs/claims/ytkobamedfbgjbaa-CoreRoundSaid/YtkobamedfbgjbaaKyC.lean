/- CoreRound: chained. -/
import Derived.Test.YtkobamedfbgjbaaKyD
namespace Edict
def kinds : List Int := [1, 3, 2]
def doneK (l : List Literal) (r : Nat) : List Literal := (kinds.take r).flatMap fun k => kindL k l
theorem doneK_3 (l : List Literal) : doneK l 3 = kindL 1 l ++ (kindL 3 l ++ kindL 2 l) := by simp [doneK, kinds]
theorem doneK_succ {l : List Literal} {r : Nat} {k : Int} (h : kinds[r]? = some k) : doneK l (r + 1) = doneK l r ++ kindL k l := by
  unfold doneK
  rw [List.take_add_one, h, List.flatMap_append]; simp
theorem kindL_snoc {k : Int} {l : List Literal} {i : Nat} {x : Literal} (h : l[i]? = some x) : kindL k (l.take (i + 1)) = kindL k (l.take i) ++ (if x.1 = k then [bareL x] else []) := by
  rw [List.take_add_one, h]
  unfold kindL
  rw [List.filter_append, List.map_append]
  congr 1
  by_cases hc : x.1 = k
  · rw [if_pos hc, Option.toList_some, List.filter_cons_of_pos (by simp [hc])]; rfl
  · rw [if_neg hc, Option.toList_some, List.filter_cons_of_neg (by simp [hc])]; rfl
theorem kindL_len (k : Int) (l : List Literal) : (kindL k l).length ≤ l.length := by unfold kindL; rw [List.length_map]; exact List.length_filter_le _ _
theorem doneK_len (l : List Literal) : ∀ r, r < 3 → (doneK l r).length ≤ 2 * l.length
  | 0, _ => by simp [doneK]
  | 1, _ => by have := kindL_len 1 l; simp [doneK, kinds]; omega
  | 2, _ => by have := kindL_len 1 l; have := kindL_len 3 l; simp [doneK, kinds]; omega
end Edict
namespace Go.Proofs.Ytkobamedfbgjbaa
open Go Go.Ev Edict
def C_chain (vs : List Value) (h : H) (K : Value → H → Prop) : Prop := ∃ (u : U) (c : Clause) (l : List Value), vs = [.agg l.toArray] ∧ Rep.rep u h c l ∧ c.1.2.1.length ≤ 1048576 ∧ c.2.length ≤ 1048576 ∧ (∀ x ∈ c.2, x.2.1.2.1.length ≤ 1048576) ∧ ∀ u' h' l', Step S0 u h u' h' → Rep.rep u' h' (chainF c) l' → K (.agg l'.toArray) h'
def G_klChain : Ctr := fun f vs h K _ => (f = 42 ∧ C_bareA vs h K) ∨ (f = 43 ∧ C_bareT vs h K)
theorem G_klChain_ok : GOk Try.prog G_klChain := by
  rintro f vs h K KP (⟨rfl, hC⟩ | ⟨rfl, hC⟩)
  · exact klBareA_ok hC
  · exact klBare_ok hC
theorem klChain_ok {vs : List Value} {h : H} {K : Value → H → Prop} {KP : List PanicEntry → H → Prop} (hC : C_chain vs h K) : HCX Try.prog 19 vs h K KP := by
  obtain ⟨u, c, l, rfl, hr, hcl, hbl, hxl, hK⟩ := hC
  rw [rep_clause] at hr
  obtain ⟨va, vb, rfl, ia, ib⟩ := hr
  obtain ⟨xa, xc, rfl, -, -⟩ := ia.sl
  obtain ⟨ba, bc, rfl, q1, q2⟩ := ib.sl
  have hm := mlen'
  refine klChained_H G_klChain G_klChain_ok _ ?_
  have s1 := Step.push0 S0 u h #[str c.1.1, .slice xa c.1.2.1.length xc, .int .i64 c.1.2.2, .slice ba c.2.length bc] 48
  have B1 : Blk (ub u h.size 0) (h.push (.cells #[str c.1.1, .slice xa c.1.2.1.length xc, .int .i64 c.1.2.2, .slice ba c.2.length bc] 48)) h.size [str c.1.1, .slice xa c.1.2.1.length xc, .int .i64 c.1.2.2, .slice ba c.2.length bc] := Blk.new [str c.1.1, .slice xa c.1.2.1.length xc, .int .i64 c.1.2.2, .slice ba c.2.length bc] _
  have s2 := Step.push0 S0 (ub u h.size 0) (h.push (.cells #[str c.1.1, .slice xa c.1.2.1.length xc, .int .i64 c.1.2.2, .slice ba c.2.length bc] 48)) #[str [], .slice none 0 0, .int .i64 0, .slice none 0 0] 48
  have B2 : Blk (ub (ub u h.size 0) (h.push (.cells #[str c.1.1, .slice xa c.1.2.1.length xc, .int .i64 c.1.2.2, .slice ba c.2.length bc] 48)).size 0) ((h.push (.cells #[str c.1.1, .slice xa c.1.2.1.length xc, .int .i64 c.1.2.2, .slice ba c.2.length bc] 48)).push (.cells #[str [], .slice none 0 0, .int .i64 0, .slice none 0 0] 48)) (h.size + 1) [str [], .slice none 0 0, .int .i64 0, .slice none 0 0] := (Blk.mk (by simp only [e_psz]; omega) (by simp (disch := first | omega | (simp only [zz]; try omega; done)) only [go_sem]) (by simp (disch := first | omega | (simp only [zz]; try omega; done)) only [go_sem]) (by repeat (first | (refine ub_at ?_; simp only [e_psz]; done) | apply ub_zero)) (by simp (disch := first | omega | (simp only [zz]; try omega; done)) only [go_sem]))
  have B12 := B1.step0 s2
  have st2 := s1.trans0 s2
  have b12 := B12.1
  simp (disch := first | omega | (simp only [zz]; try omega; done)) only [↓reduceIte, go_sem, klChained_S, klChained_E]
  refine effS_call (.inl ⟨rfl, _, c.1, [str c.1.1, .slice xa c.1.2.1.length xc, .int .i64 c.1.2.2], rfl, by rw [rep_atom]; exact ⟨_, rfl, ia.mono st2.ge⟩, hcl, fun u3 h3 l3 s3 hr3 => ⟨by simp (disch := first | omega | (simp only [zz]; try omega; done)) only [go_sem], ?_⟩⟩)
  rw [rep_atom] at hr3
  obtain ⟨vh, rfl, ih⟩ := hr3
  obtain ⟨ha, hc, rfl, -, -⟩ := ih.sl
  have s4 := Step.push0 S0 u3 h3 #[str (bareA c.1).1, .slice ha (bareA c.1).2.1.length hc, .int .i64 (bareA c.1).2.2, .slice none 0 0] 48
  have B3 : Blk (ub u3 h3.size 0) (h3.push (.cells #[str (bareA c.1).1, .slice ha (bareA c.1).2.1.length hc, .int .i64 (bareA c.1).2.2, .slice none 0 0] 48)) h3.size [str (bareA c.1).1, .slice ha (bareA c.1).2.1.length hc, .int .i64 (bareA c.1).2.2, .slice none 0 0] := Blk.new [str (bareA c.1).1, .slice ha (bareA c.1).2.1.length hc, .int .i64 (bareA c.1).2.2, .slice none 0 0] _
  have B14 := (B12.step0 s3).step0 s4
  have B24 := (B2.step0 s3).step0 s4
  have st4 := (st2.trans0 s3).trans0 s4
  have ib4 := ib.mono st4.ge
  have ih4 := ih.mono s4.ge
  have hz3 := (st2.trans0 s3).ge.sz
  have hzz := s3.ge.sz
  simp only [e_psz] at hzz
  simp (disch := first | omega | (simp only [zz]; try omega; done)) only [↓reduceIte, go_sem]
  obtain ⟨q, hq⟩ : ∃ q, q = h3.size := ⟨_, rfl⟩
  rw [← hq] at B3 B14 B24 st4 ib4 ih4 hzz
  obtain ⟨J, hJ⟩ : ∃ J : Nat → Env → H → Prop, J = fun r σ h' => σ 1 = .pointer (some ⟨h.size, 0, none⟩) ∧ σ 2 = .pointer (some ⟨h.size + 1, 0, none⟩) ∧ σ 3 = .pointer (some ⟨q, 0, none⟩) ∧ σ 12 = .agg #[.int .i64 1, .int .i64 3, .int .i64 2] ∧ σ 13 = .int .i64 r ∧ r ≤ 3 ∧
    ∃ (u' : U) (vB : Value), Step S0 u h u' h' ∧ Own (q + 1) u' h' vB (doneK c.2 r) ∧ Blk u' h' h.size [str c.1.1, .slice xa c.1.2.1.length xc, .int .i64 c.1.2.2, .slice ba c.2.length bc] ∧ Blk u' h' (h.size + 1) [str [], .slice none 0 0, .int .i64 0, .slice none 0 0] ∧
      Blk u' h' q [str (bareA c.1).1, .slice ha (bareA c.1).2.1.length hc, .int .i64 (bareA c.1).2.2, vB] ∧ IsSl u' h' (.slice ba c.2.length bc) c.2 ∧ IsSl u' h' (.slice ha (bareA c.1).2.1.length hc) (bareA c.1).2.1 := ⟨_, rfl⟩
  refine wpS_loop J (fun r => 3 - r) 0 (by rw [hJ]; exact ⟨by simp [upd], by simp [upd], by simp [upd, hq], by simp [upd], by simp [upd], by omega, _, .slice none 0 0, st4, .nil _ _ _, B14, B24, B3, ib4, ih4⟩) ?_
  clear B14 B24 B3 ib4 ih4 st4 s4 s3 ih hz3 hq b12 B12 st2 B2 s2 B1 s1
  intro r σ h1 hy
  rw [hJ] at hy
  obtain ⟨e1, e2, e3, e12, e13, hr3, u1, vB, st, oB, B1, B2, B3, ib1, ih1⟩ := hy
  have b1 := B1.1
  have b2 := B2.1
  have b3 := B3.1
  by_cases hlt : r < 3
  · obtain ⟨k, hk⟩ : ∃ k, kinds[r]? = some k := ⟨kinds[r]'(by show r < 3; exact hlt), by simp [kinds, hlt]⟩
    have hv5 : ∀ hh : H, v2 (.idxR 3 1 false) (.agg #[.int .i64 1, .int .i64 3, .int .i64 2]) (.int .i64 r) hh = .int .i64 k := fun hh => by
      match r, hlt with
      | 0, _ => cases hk; rfl
      | 1, _ => cases hk; rfl
      | 2, _ => cases hk; rfl
    have hv5c : ∀ hh : H, s2 (.idxR 3 1 false) (.agg #[.int .i64 1, .int .i64 3, .int .i64 2]) (.int .i64 r) hh = True := fun hh => by
      match r, hlt with
      | 0, _ => simp [s2, isInt, ti]
      | 1, _ => simp [s2, isInt, ti]
      | 2, _ => simp [s2, isInt, ti]
    simp (disch := first | omega | (simp only [zz]; try omega; done)) only [↓reduceIte, go_sem, klChained_L1, e12, e13, eq_true (show (r : Int) < 3 by omega), hv5, hv5c]
    have hdl := doneK_len c.2 r hlt
    obtain ⟨I, hI⟩ : ∃ I : Nat → Env → H → Prop, I = fun i σ h' => σ 1 = .pointer (some ⟨h.size, 0, none⟩) ∧ σ 2 = .pointer (some ⟨h.size + 1, 0, none⟩) ∧ σ 3 = .pointer (some ⟨q, 0, none⟩) ∧ σ 12 = .agg #[.int .i64 1, .int .i64 3, .int .i64 2] ∧ σ 13 = .int .i64 r ∧ σ 5 = .int .i64 k ∧ σ 6 = .int .i64 i ∧ i ≤ c.2.length ∧
      ∃ (u' : U) (vB : Value), Step S0 u h u' h' ∧ Own (q + 1) u' h' vB (doneK c.2 r ++ kindL k (c.2.take i)) ∧ Blk u' h' h.size [str c.1.1, .slice xa c.1.2.1.length xc, .int .i64 c.1.2.2, .slice ba c.2.length bc] ∧ Blk u' h' (h.size + 1) [str [], .slice none 0 0, .int .i64 0, .slice none 0 0] ∧
        Blk u' h' q [str (bareA c.1).1, .slice ha (bareA c.1).2.1.length hc, .int .i64 (bareA c.1).2.2, vB] ∧ IsSl u' h' (.slice ba c.2.length bc) c.2 ∧ IsSl u' h' (.slice ha (bareA c.1).2.1.length hc) (bareA c.1).2.1 := ⟨_, rfl⟩
    refine wpS_loop I (fun i => c.2.length - i) 0 (by rw [hI]; exact ⟨by simp [upd, e1], by simp [upd, e2], by simp [upd, e3], by simp [upd, e12], by simp [upd, e13], by simp [upd], by simp [upd], Nat.zero_le _, u1, vB, st, by rw [show kindL k (c.2.take 0) = [] from rfl, List.append_nil]; exact oB, B1, B2, B3, ib1, ih1⟩) ?_
    clear e1 e2 e3 e12 e13 st oB B1 B2 B3 ib1 ih1 b1 b2 b3
    intro i σ h1 hy
    rw [hI] at hy
    obtain ⟨e1, e2, e3, e12, e13, e5, e6, hi, u1, vB, st, oB, B1, B2, B3, ib1, ih1⟩ := hy
    have b1 := B1.1
    have b2 := B2.1
    have b3 := B3.1
    by_cases hit : i < c.2.length
    · obtain ⟨x, hs⟩ : ∃ x, c.2[i]? = some x := ⟨c.2[i], by simp [hit]⟩
      have hsn := kindL_snoc (k := k) hs
      have hxal := hxl x (List.mem_of_getElem? hs)
      have ibk := ib1
      have hol : (doneK c.2 r ++ kindL k (c.2.take i)).length ≤ 3 * 1048576 := by have := kindL_len k (c.2.take i); rw [List.length_take] at this; rw [List.length_append]; omega
      obtain ⟨pb, po, rfl, hpb, hpu, hpz, hpr⟩ := ib1.row i x hs
      rw [rep_literal] at hpr
      obtain ⟨pv, hpr, hpv⟩ := hpr
      obtain ⟨pva, pvc, rfl, -, -⟩ := hpv.sl
      simp only [Term.enc, sz_literal, hvs_14, List.cons_append, List.nil_append, List.cons.injEq, and_true] at hpr hpu hpz
      obtain ⟨l0, l1, l2, l3, l4, l5, l6, l7, l8, l9, l10, l11, l12, l13⟩ := hpr
      have s5 := Step.push0 S0 u1 h1 #[.int .i64 x.1, str x.2.1.1, .slice pva x.2.1.2.1.length pvc, .int .i64 x.2.1.2.2, .int .i64 x.2.2.1, .int .i64 x.2.2.2.1.1, .int .i64 x.2.2.2.1.2.1, str x.2.2.2.1.2.2.1, .int .i64 x.2.2.2.1.2.2.2, .int .i64 x.2.2.2.2.1.1, .int .i64 x.2.2.2.2.1.2.1, str x.2.2.2.2.1.2.2.1, .int .i64 x.2.2.2.2.1.2.2.2, .int .i64 x.2.2.2.2.2] 109
      have B7 := Blk.new (u := u1) (h := h1) [.int .i64 x.1, str x.2.1.1, .slice pva x.2.1.2.1.length pvc, .int .i64 x.2.1.2.2, .int .i64 x.2.2.1, .int .i64 x.2.2.2.1.1, .int .i64 x.2.2.2.1.2.1, str x.2.2.2.1.2.2.1, .int .i64 x.2.2.2.1.2.2.2, .int .i64 x.2.2.2.2.1.1, .int .i64 x.2.2.2.2.1.2.1, str x.2.2.2.2.1.2.2.1, .int .i64 x.2.2.2.2.1.2.2.2, .int .i64 x.2.2.2.2.2] 109
      have D1 := B1.step0 s5
      have D2 := B2.step0 s5
      have D3 := B3.step0 s5
      have oD := oB.step0 s5
      have st5 := st.trans0 s5
      have hb5 := ibk.mono s5.ge
      have hh5 := ih1.mono s5.ge
      have hpv5 := hpv.mono s5.ge
      have d3 := D3.1
      by_cases hx : x.1 = k
      · rw [if_pos hx] at hsn
        simp (disch := first | omega | (simp only [zz]; try omega; done)) only [↓reduceIte, go_sem, klChained_L2, e1, e3, e5, e6, B1.at, B1.2.1, D3.at, D3.2.1, hit, l0, l1, l2, l3, l4, l5, l6, l7, l8, l9, l10, l11, l12, l13, eq_true hx]
        generalize ub u1 h1.size 0 = u5 at s5 B7 D1 D2 D3 oD st5 hb5 hh5 hpv5
        obtain ⟨h5, hh5'⟩ : ∃ h5, h5 = h1.push (.cells #[.int .i64 x.1, str x.2.1.1, .slice pva x.2.1.2.1.length pvc, .int .i64 x.2.1.2.2, .int .i64 x.2.2.1, .int .i64 x.2.2.2.1.1, .int .i64 x.2.2.2.1.2.1, str x.2.2.2.1.2.2.1, .int .i64 x.2.2.2.1.2.2.2, .int .i64 x.2.2.2.2.1.1, .int .i64 x.2.2.2.2.1.2.1, str x.2.2.2.2.1.2.2.1, .int .i64 x.2.2.2.2.1.2.2.2, .int .i64 x.2.2.2.2.2] 109) := ⟨_, rfl⟩
        rw [← hh5'] at s5 D1 D2 D3 oD st5 hb5 hh5 hpv5 d3 ⊢
        have B7 : Blk u5 h5 h1.size [.int .i64 x.1, str x.2.1.1, .slice pva x.2.1.2.1.length pvc, .int .i64 x.2.1.2.2, .int .i64 x.2.2.1, .int .i64 x.2.2.2.1.1, .int .i64 x.2.2.2.1.2.1, str x.2.2.2.1.2.2.1, .int .i64 x.2.2.2.1.2.2.2, .int .i64 x.2.2.2.2.1.1, .int .i64 x.2.2.2.2.1.2.1, str x.2.2.2.2.1.2.2.1, .int .i64 x.2.2.2.2.1.2.2.2, .int .i64 x.2.2.2.2.2] := by rw [hh5']; exact B7
        have b7 := B7.1
        clear hh5'
        refine effS_call (.inl ⟨rfl, u5, x.2.1, [str x.2.1.1, .slice pva x.2.1.2.1.length pvc, .int .i64 x.2.1.2.2], rfl, by rw [rep_atom]; exact ⟨_, rfl, hpv5⟩, hxal, fun u6 h6 l6 s6 hr6 => ?_⟩)
        have E3 := D3.step0 s6
        have E7 := B7.step0 s6
        have f3 := E3.1
        have f7 := E7.1
        refine ⟨by simp (disch := first | omega | (simp only [zz]; try omega; done)) only [↓reduceIte, go_sem, e3, D3.at, B7.at, E3.at, E3.2.1, E7.at, E7.2.1], ?_⟩
        rw [rep_atom] at hr6
        obtain ⟨vq, rfl, iq⟩ := hr6
        obtain ⟨qa, qc, rfl, -, -⟩ := iq.sl
        simp (disch := first | omega | (simp only [zz]; try omega; done)) only [↓reduceIte, go_sem]
        refine effS_call (.inr ⟨rfl, u6, x.2.2.2.1, rfl, fun u7 h7 s7 => ?_⟩)
        have F3 := E3.step0 s7
        have F7 := E7.step0 s7
        have g3 := F3.1
        have g7 := F7.1
        refine ⟨by simp (disch := first | omega | (simp only [zz]; try omega; done)) only [↓reduceIte, go_sem, e3, E3.at, E7.at, F3.at, F3.2.1, F7.at, F7.2.1], ?_⟩
        simp only [Term.enc]
        simp (disch := first | omega | (simp only [zz]; try omega; done)) only [↓reduceIte, go_sem]
        refine effS_call (.inr ⟨rfl, u7, x.2.2.2.2.1, rfl, fun u8 h8 s8 => ?_⟩)
        have G3 := F3.step0 s8
        have G7 := F7.step0 s8
        have k3 := G3.1
        have k7 := G7.1
        refine ⟨by simp (disch := first | omega | (simp only [zz]; try omega; done)) only [↓reduceIte, go_sem, e3, F3.at, F7.at, G3.at, G3.2.1, G7.at, G7.2.1], ?_⟩
        simp only [Term.enc]
        have s58 := (s6.trans0 s7).trans0 s8
        have oG := oD.step0 s58
        have iq8 := (iq.mono s7.ge).mono s8.ge
        have st8 := st5.trans0 s58
        simp (disch := first | omega | (simp only [zz]; try omega; done)) only [↓reduceIte, go_sem, e3, e5, G3.at, G3.2.1]
        rw [← hx]
        refine effS_app1o rfl oG (x := bareL x) (cs := [.int .i64 x.1, str (bareA x.2.1).1, .slice qa (bareA x.2.1).2.1.length qc, .int .i64 (bareA x.2.1).2.2, .int .i64 x.2.2.1, .int .i64 (bareT x.2.2.2.1).1, .int .i64 (bareT x.2.2.2.1).2.1, str (bareT x.2.2.2.1).2.2.1, .int .i64 (bareT x.2.2.2.1).2.2.2, .int .i64 (bareT x.2.2.2.2.1).1, .int .i64 (bareT x.2.2.2.2.1).2.1, str (bareT x.2.2.2.2.1).2.2.1, .int .i64 (bareT x.2.2.2.2.1).2.2.2, .int .i64 0]) (by rw [rep_literal]; exact ⟨_, rfl, iq8⟩) rfl rfl (by omega) (by omega) fun a9 n9 c9 u9 h9 o9 s9 b9' => ⟨by simp (disch := first | omega | (simp only [zz]; try omega; done)) only [go_sem], ?_⟩
        have ne : ∀ j, OwnB vB j → q + 1 ≤ j := fun j hj => oG.ge hj
        have H1 := (D1.step0 s58).step s9 (fun hj => by have := ne _ hj; omega)
        have H2 := (D2.step0 s58).step s9 (fun hj => by have := ne _ hj; omega)
        have H3 := G3.step s9 (fun hj => by have := ne _ hj; omega)
        have st9 := st8.own s9 (fun j hj => by have := ne _ hj; omega)
        have sw := H3.stepSet (i := 3) (v := .slice a9 n9 c9)
        have K3 := H3.set (i := 3) (v := .slice a9 n9 c9) (by simp)
        have m3 := H3.1
        have x3 := H3.2.1
        have y3 := H3.2.2.1
        simp (disch := first | omega | (simp only [zz]; try omega; done)) only [↓reduceIte, go_sem, e3, e6, x3, y3]
        refine ⟨i + 1, ?_, by omega⟩
        rw [hI]
        refine ⟨by simp [upd, e1], by simp [upd, e2], by simp [upd, e3], by simp [upd, e12], by simp [upd, e13], by simp [upd, e5], by simp [upd], hit, u9, _, st9.own sw (fun j e => by have e : j = q := e; omega), ?_, H1.step sw (by omega), H2.step sw (by omega), K3, ((hb5.mono s58.ge).mono s9.ge).mono sw.ge, ((hh5.mono s58.ge).mono s9.ge).mono sw.ge⟩
        rw [hsn, ← List.append_assoc]
        exact o9.step sw (fun j hj e => by have := o9.ge hj; have e : j = q := e; omega)
      · rw [if_neg hx, List.append_nil] at hsn
        simp (disch := first | omega | (simp only [zz]; try omega; done)) only [↓reduceIte, go_sem, klChained_L2, e1, e5, e6, B1.at, B1.2.1, hit, l0, l1, l2, l3, l4, l5, l6, l7, l8, l9, l10, l11, l12, l13, eq_false hx]
        refine ⟨i + 1, ?_, by omega⟩
        rw [hI]
        exact ⟨by simp [upd, e1], by simp [upd, e2], by simp [upd, e3], by simp [upd, e12], by simp [upd, e13], by simp [upd, e5], by simp [upd], hit, _, vB, st5, by rw [hsn]; exact oD, D1, D2, D3, hb5, hh5⟩
    · obtain rfl : i = c.2.length := by omega
      rw [List.take_length] at oB
      simp (disch := first | omega | (simp only [zz]; try omega; done)) only [↓reduceIte, go_sem, klChained_L2, e1, e6, e13, B1.at, B1.2.1]
      refine ⟨r + 1, ?_, by omega⟩
      rw [hJ]
      exact ⟨by simp [upd, e1], by simp [upd, e2], by simp [upd, e3], by simp [upd, e12], by simp [upd], by omega, u1, vB, st, by rw [doneK_succ hk]; exact oB, B1, B2, B3, ib1, ih1⟩
  · obtain rfl : r = 3 := by omega
    rw [doneK_3] at oB
    have hB := oB.isSl
    obtain ⟨ya, yc, rfl, -, -⟩ := oB.sl
    obtain ⟨L, hL⟩ : ∃ L, L = kindL 1 c.2 ++ (kindL 3 c.2 ++ kindL 2 c.2) := ⟨_, rfl⟩
    rw [← hL] at B3 hB
    have sw := B2.stepSets (l := [str (bareA c.1).1, .slice ha (bareA c.1).2.1.length hc, .int .i64 (bareA c.1).2.2, .slice ya L.length yc]) rfl
    have E2 := B2.sets (l := [str (bareA c.1).1, .slice ha (bareA c.1).2.1.length hc, .int .i64 (bareA c.1).2.2, .slice ya L.length yc]) rfl
    simp (disch := first | omega | (simp only [zz]; try omega; done)) only [↓reduceIte, go_sem, klChained_L1, e2, e3, e13, B3.at, B3.2.1, B2.2.1, B2.2.2.1, E2.at, E2.2.1]
    have hB2 : IsSl u1 h1 (.slice ya L.length yc) (chainF c).2 := by
      have e : (chainF c).2 = L := hL.symm
      rw [e]; exact hB
    have hr2 : Rep.rep u1 (hsets h1 (h.size + 1) 0 [str (bareA c.1).1, .slice ha (bareA c.1).2.1.length hc, .int .i64 (bareA c.1).2.2, .slice ya L.length yc]) (chainF c) [str (bareA c.1).1, .slice ha (bareA c.1).2.1.length hc, .int .i64 (bareA c.1).2.2, .slice ya L.length yc] := by
      rw [rep_clause]; exact ⟨_, _, rfl, ih1.mono sw.ge, hB2.mono sw.ge⟩
    exact hK _ _ _ (st.own sw (fun j e => by have e : j = h.size + 1 := e; omega)) hr2
end Go.Proofs.Ytkobamedfbgjbaa
