/- PrintSpoilt: program. -/
import Derived.Test.YtdaldilmjhdpaaaPoD
namespace Edict
def claM (c : Clause) : Clause := (madM c.1, (c.2.take 16).map litMk)
end Edict
namespace Go.Proofs.Ytdaldilmjhdpaaa
open Go Go.Ev Edict
def ClaS (c : Clause) : Prop := AtomS c.1 ∧ ∀ x ∈ c.2, LitS x
def C_poProg (vs : List Value) (h : H) (K : Value → H → Prop) : Prop := ∃ (u : U) (v : Value) (l : List Clause), vs = [.agg #[v]] ∧ IsSl u h v l ∧ (∀ c ∈ l, ClaS c) ∧ ∀ u' h' v', Step S0 u h u' h' → IsSl u' h' v' ((l.take 512).map claM) → K (.agg #[v']) h'
def G_poProg : Ctr := fun f vs h K _ => (f = 4 ∧ C_poMade vs h K) ∨ (f = 15 ∧ C_poBody vs h K)
theorem G_poProg_ok : GOk Try.prog G_poProg := by
  rintro f vs h K KP (⟨rfl, hC⟩ | ⟨rfl, hC⟩)
  · exact poMade_ok hC
  · exact poBody_ok hC
theorem poProg_ok {vs : List Value} {h : H} {K : Value → H → Prop} {KP : List PanicEntry → H → Prop} (hC : C_poProg vs h K) : HCX Try.prog 8 vs h K KP := by
  obtain ⟨u, v, l, rfl, hl, hS, hK⟩ := hC
  obtain ⟨la, lc, rfl, q1, q2⟩ := hl.sl
  have hm := mlenP
  refine poProg_H G_poProg G_poProg_ok _ ?_
  have s1 := Step.push0 S0 u h #[.slice la l.length lc] 24
  have B1 := Blk.new (u := u) (h := h) [.slice la l.length lc] 24
  obtain ⟨u1, hu1⟩ : ∃ u1, u1 = ub u h.size 0 := ⟨_, rfl⟩
  obtain ⟨h1, hh1⟩ : ∃ h1, h1 = h.push (.cells #[.slice la l.length lc] 24) := ⟨_, rfl⟩
  have hs1 : h1.size = h.size + 1 := by rw [hh1]; simp only [e_psz]
  have B1 : Blk u1 h1 h.size [.slice la l.length lc] := by rw [hu1, hh1]; exact B1
  rw [← hu1, ← hh1] at s1
  have s2 := Step.push0 S0 u1 h1 #[.slice none 0 0] 24
  have B2 := Blk.new (u := u1) (h := h1) [.slice none 0 0] 24
  obtain ⟨u2, hu2⟩ : ∃ u2, u2 = ub u1 h1.size 0 := ⟨_, rfl⟩
  obtain ⟨h2, hh2⟩ : ∃ h2, h2 = h1.push (.cells #[.slice none 0 0] 24) := ⟨_, rfl⟩
  have hs2 : h2.size = h.size + 2 := by rw [hh2]; simp only [e_psz, hs1]
  have B2 : Blk u2 h2 (h.size + 1) [.slice none 0 0] := by rw [hu2, hh2, ← hs1]; exact B2
  rw [← hu2, ← hh2] at s2
  have s3 := Step.push0 S0 u2 h2 #[.slice none 0 0] 24
  have B3 := Blk.new (u := u2) (h := h2) [.slice none 0 0] 24
  obtain ⟨u3, hu3⟩ : ∃ u3, u3 = ub u2 h2.size 0 := ⟨_, rfl⟩
  obtain ⟨h3, hh3⟩ : ∃ h3, h3 = h2.push (.cells #[.slice none 0 0] 24) := ⟨_, rfl⟩
  have B3 : Blk u3 h3 (h.size + 2) [.slice none 0 0] := by rw [hu3, hh3, ← hs2]; exact B3
  rw [← hu3, ← hh3] at s3
  have st := (s1.trans0 s2).trans0 s3
  have hl3 := hl.mono st.ge
  have C1 := (B1.step0 s2).step0 s3
  have C2 := B2.step0 s3
  simp (disch := first | omega | (simp only [e_ssz, e_psz, e_hszs, List.length_cons, List.length_nil]; try omega; done)) only [↓reduceIte, go_sem, poProg_S, poProg_E]
  rw [← hh1, ← hh2, ← hh3]
  obtain ⟨I, hI⟩ : ∃ I : Nat → Env → H → Prop, I = fun i σ h' => σ 1 = .pointer (some ⟨h.size, 0, none⟩) ∧ σ 2 = .pointer (some ⟨h.size + 1, 0, none⟩) ∧ σ 3 = .pointer (some ⟨h.size + 2, 0, none⟩) ∧ σ 4 = .int .i64 i ∧ i ≤ l.length ∧ i ≤ 512 ∧
    ∃ (u' : U) (vA : Value), Step S0 u h u' h' ∧ Own (h.size + 3) u' h' vA ((l.take i).map claM) ∧ Blk u' h' h.size [.slice la l.length lc] ∧ Blk u' h' (h.size + 1) [.slice none 0 0] ∧ Blk u' h' (h.size + 2) [vA] ∧ IsSl u' h' (.slice la l.length lc) l := ⟨_, rfl⟩
  refine wpS_loop I (fun i => l.length - i) 0 (by rw [hI]; exact ⟨by simp [upd], by simp [upd], by simp [upd], by simp [upd], Nat.zero_le _, Nat.zero_le _, u3, .slice none 0 0, st, .nil _ _ _, C1, C2, B3, hl3⟩) ?_
  clear C1 C2 B3 hl3 st s3 hh3 hu3 B2 s2 hh2 hu2 B1 s1 hh1 hu1 hl
  intro i σ h4 hy
  rw [hI] at hy
  obtain ⟨e1, e2, e3, e4, hi, hi5, u4, vA, st, oA, B1, B2, B3, hl⟩ := hy
  have b1 := B1.1
  have b2 := B2.1
  have b3 := B3.1
  by_cases hlt : i < l.length ∧ i < 512
  · obtain ⟨c, hs⟩ : ∃ c, l[i]? = some c := ⟨l[i]'hlt.1, by simp [hlt.1]⟩
    have htk : (l.take (i + 1)).map claM = (l.take i).map claM ++ [claM c] := by rw [List.take_add_one, hs]; simp
    have hlk : ((l.take i).map claM).length = i := by rw [List.length_map, List.length_take]; omega
    obtain ⟨hS1, hS2⟩ := hS c (List.mem_of_getElem? hs)
    have hlk2 := hl
    obtain ⟨pb, po, rfl, hpb, hpu, hpz, hpr⟩ := hl.row i c hs
    rw [rep_clause] at hpr
    obtain ⟨va, vb, hpr, hh, hbd⟩ := hpr
    obtain ⟨ha, hc, rfl, -, -⟩ := hh.sl
    obtain ⟨ba, bc, rfl, -, -⟩ := hbd.sl
    simp only [sz_clause, hvs_4, List.cons.injEq, and_true] at hpr hpu hpz
    obtain ⟨l0, l1, l2, l3⟩ := hpr
    have sC := Step.push0 S0 u4 h4 #[str c.1.1, .slice ha c.1.2.1.length hc, .int .i64 c.1.2.2, .slice ba c.2.length bc] 31
    have B5 := Blk.new (u := u4) (h := h4) [str c.1.1, .slice ha c.1.2.1.length hc, .int .i64 c.1.2.2, .slice ba c.2.length bc] 31
    have D3 := B3.step0 sC
    have d3 := D3.1
    simp (disch := first | omega | (simp only [e_ssz, e_psz, e_hszs, List.length_cons, List.length_nil]; try omega; done)) only [↓reduceIte, go_sem, poProg_L1, e1, e3, e4, B1.at, B1.2.1, hlt.1, eq_true (show (i : Int) < 512 by omega), l0, l1, l2, l3, D3.at, D3.2.1]
    generalize ub u4 h4.size 0 = u5 at sC B5 D3
    obtain ⟨h5, hh5⟩ : ∃ h5, h5 = h4.push (.cells #[str c.1.1, .slice ha c.1.2.1.length hc, .int .i64 c.1.2.2, .slice ba c.2.length bc] 31) := ⟨_, rfl⟩
    have B5 : Blk u5 h5 h4.size [str c.1.1, .slice ha c.1.2.1.length hc, .int .i64 c.1.2.2, .slice ba c.2.length bc] := by rw [hh5]; exact B5
    rw [← hh5] at sC D3 d3 ⊢
    clear hh5
    have b5 := B5.1
    refine effS_call (.inl ⟨rfl, u5, c.1, [str c.1.1, .slice ha c.1.2.1.length hc, .int .i64 c.1.2.2], rfl, by rw [rep_atom]; exact ⟨_, rfl, hh.mono sC.ge⟩, hS1, fun u6 h6 v6 s6 o6 => ?_⟩)
    have F5 := B5.step0 s6
    have F3 := D3.step0 s6
    have f5 := F5.1
    have f3 := F3.1
    refine ⟨by simp (disch := first | omega | (simp only [e_ssz, e_psz, e_hszs, List.length_cons, List.length_nil]; try omega; done)) only [↓reduceIte, go_sem, B5.at, D3.at, F5.at, F5.2.1, F3.at, F3.2.1, e3], ?_⟩
    have i6 := o6.isSl
    obtain ⟨xa, xc, rfl, -, -⟩ := o6.sl
    have s56 := sC.trans0 s6
    simp (disch := first | omega | (simp only [e_ssz, e_psz, e_hszs, List.length_cons, List.length_nil]; try omega; done)) only [↓reduceIte, go_sem]
    refine effS_call (.inr ⟨rfl, u6, _, c.2, rfl, hbd.mono s56.ge, hS2, fun u7 h7 v7 s7 i7 => ?_⟩)
    have G3 := F3.step0 s7
    have g3 := G3.1
    refine ⟨by simp (disch := first | omega | (simp only [e_ssz, e_psz, e_hszs, List.length_cons, List.length_nil]; try omega; done)) only [↓reduceIte, go_sem, F3.at, G3.at, G3.2.1, e3], ?_⟩
    obtain ⟨ya, yc, rfl, -, -⟩ := i7.sl
    have s57 := s56.trans0 s7
    have oC := oA.step0 s57
    have hz := s57.ge.sz
    simp (disch := first | omega | (simp only [e_ssz, e_psz, e_hszs, List.length_cons, List.length_nil]; try omega; done)) only [↓reduceIte, go_sem, e3, G3.at, G3.2.1]
    refine effS_app1o rfl oC (x := claM c) (cs := [str (madM c.1).1, .slice xa (madM c.1).2.1.length xc, .int .i64 c.1.2.2, .slice ya ((c.2.take 16).map litMk).length yc]) (by rw [rep_clause]; exact ⟨_, _, rfl, i6.mono s7.ge, i7⟩) rfl rfl (by omega) (by rw [hlk]; omega) fun a8 n8 c8 u8 h8 o8 s8 b8' => ⟨by simp (disch := first | omega | (simp only [e_ssz, e_psz, e_hszs, List.length_cons, List.length_nil]; try omega; done)) only [go_sem], ?_⟩
    have ne : ∀ j, OwnB vA j → h.size + 3 ≤ j := fun j hj => oC.ge hj
    have H1 := (B1.step0 s57).step s8 (fun hj => by have := ne _ hj; omega)
    have H2 := (B2.step0 s57).step s8 (fun hj => by have := ne _ hj; omega)
    have H3 := G3.step s8 (fun hj => by have := ne _ hj; omega)
    have st8 := (st.trans0 s57).own s8 (fun j hj => by have := ne _ hj; omega)
    have sw := H3.stepSet (i := 0) (v := .slice a8 n8 c8)
    have K3 := H3.set (i := 0) (v := .slice a8 n8 c8) (by simp)
    have m3 := H3.1
    have x3 := H3.2.1
    have y3 := H3.2.2.1
    simp (disch := first | omega | (simp only [e_ssz, e_psz, e_hszs, List.length_cons, List.length_nil]; try omega; done)) only [↓reduceIte, go_sem, e3, e4, x3, y3]
    refine ⟨i + 1, ?_, by omega⟩
    rw [hI]
    refine ⟨by simp [upd, e1], by simp [upd, e2], by simp [upd, e3], by simp [upd], hlt.1, hlt.2, u8, _, st8.own sw (fun j e => by have e : j = h.size + 2 := e; omega), ?_, H1.step sw (by omega), H2.step sw (by omega), K3, ((hlk2.mono s57.ge).mono s8.ge).mono sw.ge⟩
    rw [htk]
    exact o8.step sw (fun j hj e => by have := o8.ge hj; have e : j = h.size + 2 := e; omega)
  · have htk : l.take i = l.take 512 := by
      by_cases hll : i < l.length
      · rw [show i = 512 by omega]
      · rw [List.take_of_length_le (by omega), List.take_of_length_le (by omega)]
    rw [htk] at oA
    have hA := oA.isSl
    obtain ⟨xa, xc, rfl, -, -⟩ := oA.sl
    have sw := B2.stepSet (i := 0) (v := .slice xa ((l.take 512).map claM).length xc)
    have E2 : Blk u4 (hset h4 (h.size + 1) 0 (.slice xa ((l.take 512).map claM).length xc)) (h.size + 1) [.slice xa ((l.take 512).map claM).length xc] := B2.set (i := 0) (v := .slice xa ((l.take 512).map claM).length xc) (by simp)
    have stf := st.own sw (fun j e => by have e : j = h.size + 1 := e; omega)
    by_cases hll : i < l.length
    · simp (disch := first | omega | (simp only [e_ssz, e_psz, e_hszs, List.length_cons, List.length_nil]; try omega; done)) only [↓reduceIte, go_sem, poProg_L1, e1, e2, e3, e4, B1.at, B1.2.1, B3.at, B3.2.1, B2.2.1, B2.2.2.1, E2.at, hll, eq_false (show ¬ (i : Int) < 512 by omega)]
      exact hK _ _ _ stf (hA.mono sw.ge)
    · simp (disch := first | omega | (simp only [e_ssz, e_psz, e_hszs, List.length_cons, List.length_nil]; try omega; done)) only [↓reduceIte, go_sem, poProg_L1, e1, e2, e3, e4, B1.at, B1.2.1, B3.at, B3.2.1, B2.2.1, B2.2.2.1, E2.at, eq_false hll]
      exact hK _ _ _ stf (hA.mono sw.ge)
end Go.Proofs.Ytdaldilmjhdpaaa
