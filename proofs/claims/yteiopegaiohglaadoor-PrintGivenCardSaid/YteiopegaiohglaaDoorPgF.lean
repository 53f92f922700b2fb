/- PrintGiven: facts. -/
import Derived.Test.YteiopegaiohglaaDoorPgM
namespace Go.Ev
open Go Rep
theorem Blk.stepSet {u : U} {h : H} {b i : Nat} {cs : List Value} {v : Value} (B : Blk u h b cs) : Step (fun j => j = b) u h u (hset h b i v) := Step.set u h _ rfl (by rw [B.2.2.2.1]; exact Nat.zero_le _)
end Go.Ev
namespace Edict
def conX (c : Const) : Const := conM c.1 c.2.1 c.2.2
theorem facM_2 (f : Fact) : (facM f).2 = (f.2.take 8).map conX := rfl
end Edict
namespace Go.Proofs.YteiopegaiohglaaDoor
open Go Go.Ev Edict
def FactS (f : Fact) : Prop := f.1.length ≤ 9223372036854775807 ∧ ∀ c ∈ f.2, c.2.2.length ≤ 9223372036854775807
def C_pgFacts (vs : List Value) (h : H) (K : Value → H → Prop) : Prop := ∃ (u : U) (v : Value) (l : List Fact), vs = [v] ∧ IsSl u h v l ∧ (∀ f ∈ l, FactS f) ∧ ∀ u' h' v', Step S0 u h u' h' → IsSl u' h' v' ((l.take 4096).map facM) → K v' h'
def G_pgFacts : Ctr := fun f vs h K _ => (f = 12 ∧ C_poStr nameM vs h K) ∨ (f = 13 ∧ C_poCon vs h K)
theorem G_pgFacts_ok : GOk Tryd.prog G_pgFacts := by
  rintro f vs h K KP (⟨rfl, hC⟩ | ⟨rfl, hC⟩)
  · exact poName_ok hC
  · exact poCon_ok hC
theorem pgFacts_ok {vs : List Value} {h : H} {K : Value → H → Prop} {KP : List PanicEntry → H → Prop} (hC : C_pgFacts vs h K) : HCX Tryd.prog 4 vs h K KP := by
  obtain ⟨u, v, l, rfl, hl, hS, hK⟩ := hC
  obtain ⟨la, lc, rfl, q1, q2⟩ := hl.sl
  have hm := mlen
  refine pgFacts_H G_pgFacts G_pgFacts_ok _ ?_
  simp (disch := first | omega | (simp only [e_ssz, e_psz, e_hszs, List.length_cons, List.length_nil]; try omega; done)) only [go_sem, pgFacts_S, pgFacts_E]
  obtain ⟨I, hI⟩ : ∃ I : Nat → Env → H → Prop, I = fun i σ h' => ∃ (u' : U) (vA : Value), σ 0 = .slice la l.length lc ∧ σ 3 = vA ∧ σ 4 = .int .i64 i ∧ i ≤ l.length ∧ i ≤ 4096 ∧ Step S0 u h u' h' ∧ Own h.size u' h' vA ((l.take i).map facM) := ⟨_, rfl⟩
  refine wpS_loop I (fun i => l.length - i) 0 (by rw [hI]; exact ⟨u, .slice none 0 0, by simp [upd], by simp [upd], by simp [upd], Nat.zero_le _, Nat.zero_le _, .refl _ _ _, .nil _ _ _⟩) ?_
  intro i σ h1 hy
  rw [hI] at hy
  obtain ⟨u1, vA, e0, e3, e4, hi, hi4, st, oA⟩ := hy
  by_cases hlt : i < l.length ∧ i < 4096
  · obtain ⟨x, hs⟩ : ∃ x, l[i]? = some x := ⟨l[i]'hlt.1, by simp [hlt.1]⟩
    have htk : (l.take (i + 1)).map facM = (l.take i).map facM ++ [facM x] := by rw [List.take_add_one, hs]; simp
    have hlk : ((l.take i).map facM).length = i := by rw [List.length_map, List.length_take]; omega
    obtain ⟨hS1, hS2⟩ := hS x (List.mem_of_getElem? hs)
    obtain ⟨pb, po, rfl, hpb, hpu, hpz, hpr⟩ := (hl.mono st.ge).row i x hs
    rw [rep_factG] at hpr
    obtain ⟨xv, hpr, ixv⟩ := hpr
    obtain ⟨xa, xc, rfl, -, -⟩ := ixv.sl
    simp only [sz_factG, hvs_2, List.cons.injEq, and_true] at hpr hpu hpz
    obtain ⟨p0, p1⟩ := hpr
    simp (disch := first | omega | (simp only [e_ssz, e_psz, e_hszs, List.length_cons, List.length_nil]; try omega; done)) only [↓reduceIte, go_sem, pgFacts_L1, e0, e4, hlt.1, eq_true (show (i : Int) < 4096 by omega), p0]
    refine effS_call (.inl ⟨rfl, u1, x.1, rfl, hS1, fun u2 h2 s2 => ⟨by simp (disch := first | omega | (simp only [e_ssz, e_psz, e_hszs, List.length_cons, List.length_nil]; try omega; done)) only [go_sem], ?_⟩⟩)
    have sF := Step.push0 S0 u2 h2 #[str (nameM x.1), .slice none 0 0] 28
    have BF := Blk.new (u := u2) (h := h2) [str (nameM x.1), .slice none 0 0] 28
    have oA3 := (oA.step0 s2).step0 sF
    have hAlt : ∀ b, OwnB vA b → b < h2.size := fun b hb => (oA.step0 s2).lt hb
    have st3 := (st.trans0 s2).trans0 sF
    have hz2 : h.size ≤ h2.size := (st.trans0 s2).ge.sz
    have ix3 := (ixv.mono s2.ge).mono sF.ge
    simp (disch := first | omega | (simp only [e_ssz, e_psz, e_hszs, List.length_cons, List.length_nil]; try omega; done)) only [↓reduceIte, go_sem]
    obtain ⟨u3, hu3⟩ : ∃ u3, u3 = ub u2 h2.size 0 := ⟨_, rfl⟩
    obtain ⟨h3, hh3⟩ : ∃ h3, h3 = h2.push (.cells #[str (nameM x.1), .slice none 0 0] 28) := ⟨_, rfl⟩
    have BF : Blk u3 h3 h2.size [str (nameM x.1), .slice none 0 0] := by rw [hu3, hh3]; exact BF
    rw [← hu3, ← hh3] at oA3 st3 ix3
    rw [← hh3]
    clear hu3 hh3 sF
    obtain ⟨p, hp⟩ : ∃ p, p = h2.size := ⟨_, rfl⟩
    rw [← hp] at hAlt hz2 BF ⊢
    clear hp
    obtain ⟨J, hJ⟩ : ∃ J : Nat → Env → H → Prop, J = fun j σ' h' => ∃ (u' : U) (vB : Value), σ' 0 = σ 0 ∧ σ' 3 = σ 3 ∧ σ' 4 = σ 4 ∧ σ' 5 = .pointer (some ⟨p, 0, none⟩) ∧ σ' 6 = .int .i64 j ∧ j ≤ x.2.length ∧ j ≤ 8 ∧ Step S0 u h u' h' ∧ Own h.size u' h' vA ((l.take i).map facM) ∧
      Own (p + 1) u' h' vB ((x.2.take j).map conX) ∧ Blk u' h' p [str (nameM x.1), vB] := ⟨_, rfl⟩
    refine wpS_loop J (fun j => x.2.length - j) 0 (by rw [hJ]; exact ⟨u3, .slice none 0 0, by simp [upd], by simp [upd], by simp [upd], by simp [upd], by simp [upd], Nat.zero_le _, Nat.zero_le _, st3, oA3, .nil _ _ _, BF⟩) ?_
    clear BF oA3 st3 ix3 hpb hpu hpz p0 p1 ixv s2
    intro j σ' h4 hz
    rw [hJ] at hz
    obtain ⟨u4, vB, f0, f3, f4, f5, f6, hj, hj8, st4, oA4, oB, B⟩ := hz
    rw [e0] at f0
    rw [e3] at f3
    rw [e4] at f4
    have b1 := B.1
    obtain ⟨pb', po', hla, hpb, hpu, hpz, hpr⟩ := (hl.mono st4.ge).row i x hs
    cases hla
    rw [rep_factG] at hpr
    obtain ⟨xv, hpr, ixv⟩ := hpr
    obtain ⟨xa, xc, rfl, -, -⟩ := ixv.sl
    simp only [sz_factG, hvs_2, List.cons.injEq, and_true] at hpr hpu hpz
    obtain ⟨p0, p1⟩ := hpr
    by_cases hlj : j < x.2.length ∧ j < 8
    · obtain ⟨c, hc⟩ : ∃ c, x.2[j]? = some c := ⟨x.2[j]'hlj.1, by simp [hlj.1]⟩
      have hck : (x.2.take (j + 1)).map conX = (x.2.take j).map conX ++ [conX c] := by rw [List.take_add_one, hc]; simp
      have hlc : ((x.2.take j).map conX).length = j := by rw [List.length_map, List.length_take]; omega
      have hcs := hS2 c (List.mem_of_getElem? hc)
      obtain ⟨qb, qo, rfl, hqb, hqu, hqz, hqr⟩ := ixv.row j c hc
      simp only [rep_const, sz_const, hvs_3, List.cons.injEq, and_true] at hqr hqu hqz
      obtain ⟨c0, c1, c2⟩ := hqr
      have sC := Step.push0 S0 u4 h4 #[.int .i64 c.1, .int .i64 c.2.1, str c.2.2] 46
      have BC := Blk.new (u := u4) (h := h4) [.int .i64 c.1, .int .i64 c.2.1, str c.2.2] 46
      have D := B.step0 sC
      have d1 := D.1
      simp (disch := first | omega | (simp only [e_ssz, e_psz, e_hszs, List.length_cons, List.length_nil]; try omega; done)) only [↓reduceIte, go_sem, pgFacts_L2, f0, f4, f5, f6, hlt.1, hlj.1, eq_true (show (j : Int) < 8 by omega), p1, c0, c1, c2, D.at, D.2.1]
      obtain ⟨u5, hu5⟩ : ∃ u5, u5 = ub u4 h4.size 0 := ⟨_, rfl⟩
      obtain ⟨h5, hh5⟩ : ∃ h5, h5 = h4.push (.cells #[.int .i64 c.1, .int .i64 c.2.1, str c.2.2] 46) := ⟨_, rfl⟩
      have D : Blk u5 h5 p [str (nameM x.1), vB] := by rw [hu5, hh5]; exact D
      rw [← hu5, ← hh5] at sC
      rw [← hh5]
      clear hu5 hh5 BC d1
      have d1 := D.1
      refine effS_call (.inr ⟨rfl, u5, c.1, c.2.1, c.2.2, rfl, hcs, fun u6 h6 s6 => ?_⟩)
      have s56 := sC.trans0 s6
      have E := D.step0 s6
      have e1 := E.1
      have oC := oB.step0 s56
      refine ⟨by simp (disch := first | omega | (simp only [e_ssz, e_psz, e_hszs, List.length_cons, List.length_nil]; try omega; done)) only [↓reduceIte, go_sem, D.at, E.at, E.2.1, f5], ?_⟩
      simp (disch := first | omega | (simp only [e_ssz, e_psz, e_hszs, List.length_cons, List.length_nil]; try omega; done)) only [↓reduceIte, go_sem, f5, E.at, E.2.1]
      refine effS_app1o rfl oC (x := conX c) (cs := [.int .i64 (conX c).1, .int .i64 (conX c).2.1, str (conX c).2.2]) (by rw [rep_const]) rfl rfl (by have := E.1; omega) (by rw [hlc]; omega) fun a7 n7 c7 u7 h7 o7 s7 b7 => ⟨by simp (disch := first | omega | (simp only [e_ssz, e_psz, e_hszs, List.length_cons, List.length_nil]; try omega; done)) only [go_sem], ?_⟩
      have ne : ∀ b, OwnB vB b → p + 1 ≤ b := fun b hb => oC.ge hb
      have F := E.step s7 (fun hb => by have := ne _ hb; omega)
      have oA7 := (oA4.step0 s56).step s7 (fun b hb q => by have := ne _ q; have := hAlt b hb; omega)
      have st7 := (st4.trans0 s56).own s7 (fun b hb => by have := ne _ hb; omega)
      have sw := F.stepSet (i := 1) (v := .slice a7 n7 c7)
      have F2 := F.set (i := 1) (v := .slice a7 n7 c7) (by simp)
      have x1 := F.1
      have x3 := F.2.1
      have y3 := F.2.2.1
      simp (disch := first | omega | (simp only [e_ssz, e_psz, e_hszs, List.length_cons, List.length_nil]; try omega; done)) only [↓reduceIte, go_sem, f5, f6, x3, y3]
      refine ⟨j + 1, ?_, by omega⟩
      rw [hJ]
      refine ⟨u7, _, by simp [upd, f0, e0], by simp [upd, f3, e3], by simp [upd, f4, e4], by simp [upd, f5], by simp [upd], hlj.1, hlj.2, st7.own sw (fun b e => by have e : b = p := e; omega), oA7.step sw (fun b hb e => by have e : b = p := e; have := hAlt b hb; omega), ?_, F2⟩
      rw [hck]
      exact o7.step sw (fun b hb e => by have := o7.ge hb; have e : b = p := e; omega)
    · have hck : x.2.take j = x.2.take 8 := by
        by_cases hll : j < x.2.length
        · rw [show j = 8 by omega]
        · rw [List.take_of_length_le (by omega), List.take_of_length_le (by omega)]
      rw [hck] at oB
      have iB := oB.isSl
      obtain ⟨ya, yc, rfl, -, -⟩ := oB.sl
      have go : ∀ σ2 : Env, σ2 0 = .slice (some ⟨pb, po, none⟩) l.length lc → σ2 4 = .int .i64 (i : Nat) → ∀ a8 n8 c8 u8 h8, Own h.size u8 h8 (.slice a8 n8 c8) ((l.take i).map facM ++ [facM x]) → Step S0 u h u8 h8 → ∀ σ3 : Env, σ3 0 = σ2 0 → σ3 3 = .slice a8 n8 c8 → σ3 4 = .int .i64 ((i : Int) + 1) → ∃ y, I y σ3 h8 ∧ l.length - y < l.length - i := fun σ2 g0 g4 a8 n8 c8 u8 h8 o8 s8 σ3 k0 k3 k4 => by
        refine ⟨i + 1, ?_, by omega⟩
        rw [hI]
        exact ⟨u8, _, by rw [k0, g0], k3, k4, hlt.1, hlt.2, s8, by rw [htk]; exact o8⟩
      by_cases hll : j < x.2.length
      · simp (disch := first | omega | (simp only [e_ssz, e_psz, e_hszs, List.length_cons, List.length_nil]; try omega; done)) only [↓reduceIte, go_sem, pgFacts_L2, f0, f3, f4, f5, f6, hlt.1, hll, eq_false (show ¬ (j : Int) < 8 by omega), p1, B.at, B.2.1]
        refine effS_app1o rfl oA4 (x := facM x) (cs := [str (nameM x.1), .slice ya ((x.2.take 8).map conX).length yc]) (by rw [rep_factG]; exact ⟨_, rfl, iB⟩) rfl rfl (by omega) (by rw [hlk]; omega) fun a8 n8 c8 u8 h8 o8 s8 b8 => ⟨by simp (disch := first | omega | (simp only [e_ssz, e_psz, e_hszs, List.length_cons, List.length_nil]; try omega; done)) only [go_sem], ?_⟩
        simp (disch := first | omega | (simp only [e_ssz, e_psz, e_hszs, List.length_cons, List.length_nil]; try omega; done)) only [↓reduceIte, go_sem, f4]
        exact go σ' f0 f4 a8 n8 c8 u8 h8 o8 (st4.own s8 (fun b hb => oA4.ge hb)) _ (by simp [upd]) (by simp [upd]) (by simp [upd])
      · simp (disch := first | omega | (simp only [e_ssz, e_psz, e_hszs, List.length_cons, List.length_nil]; try omega; done)) only [↓reduceIte, go_sem, pgFacts_L2, f0, f3, f4, f5, f6, hlt.1, eq_false hll, p1, B.at, B.2.1]
        refine effS_app1o rfl oA4 (x := facM x) (cs := [str (nameM x.1), .slice ya ((x.2.take 8).map conX).length yc]) (by rw [rep_factG]; exact ⟨_, rfl, iB⟩) rfl rfl (by omega) (by rw [hlk]; omega) fun a8 n8 c8 u8 h8 o8 s8 b8 => ⟨by simp (disch := first | omega | (simp only [e_ssz, e_psz, e_hszs, List.length_cons, List.length_nil]; try omega; done)) only [go_sem], ?_⟩
        simp (disch := first | omega | (simp only [e_ssz, e_psz, e_hszs, List.length_cons, List.length_nil]; try omega; done)) only [↓reduceIte, go_sem, f4]
        exact go σ' f0 f4 a8 n8 c8 u8 h8 o8 (st4.own s8 (fun b hb => oA4.ge hb)) _ (by simp [upd]) (by simp [upd]) (by simp [upd])
  · have htk : l.take i = l.take 4096 := by
      by_cases hll : i < l.length
      · rw [show i = 4096 by omega]
      · rw [List.take_of_length_le (by omega), List.take_of_length_le (by omega)]
    rw [htk] at oA
    have hA := oA.isSl
    by_cases hll : i < l.length
    · simp (disch := first | omega | (simp only [e_ssz, e_psz, e_hszs, List.length_cons, List.length_nil]; try omega; done)) only [↓reduceIte, go_sem, pgFacts_L1, e0, e3, e4, hll, eq_false (show ¬ (i : Int) < 4096 by omega)]
      exact hK _ _ _ st hA
    · simp (disch := first | omega | (simp only [e_ssz, e_psz, e_hszs, List.length_cons, List.length_nil]; try omega; done)) only [↓reduceIte, go_sem, pgFacts_L1, e0, e3, e4, eq_false hll]
      exact hK _ _ _ st hA
end Go.Proofs.YteiopegaiohglaaDoor
