/- ParseOwn: deep, of an answer. -/
import Derived.Test.YtlenjlidahnklaaDoorPwF
namespace Edict
def Sm (a : AnsT) : Prop := (a.1.length ≤ 5000 ∧ ∀ c ∈ a.1, c.1.2.1.length ≤ 5000 ∧ c.2.length ≤ 5000 ∧ ∀ x ∈ c.2, x.2.1.2.1.length ≤ 5000) ∧ (a.2.2.1.length ≤ 5000 ∧ ∀ x ∈ a.2.2.1, x.2.1.2.1.length ≤ 5000) ∧ (a.2.2.2.1.length ≤ 5000 ∧ ∀ x ∈ a.2.2.2.1, x.2.1.length ≤ 5000) ∧ a.2.2.2.2.2.length ≤ 5000
end Edict
namespace Go.Ev
open Go Rep Edict HasTags
theorem isSl_mem {α : Type} [Rep α] {u : U} {h : H} {v : Value} {l : List α} (i : IsSl u h v l) {x : α} (hx : x ∈ l) : ∃ cs, rep u h x cs := by
  obtain ⟨j, hj⟩ := List.mem_iff_getElem?.1 hx
  obtain ⟨a, c, rfl, -⟩ := i.sl
  obtain ⟨b, o, -, -, -, -, r⟩ := i.row j x hj
  exact ⟨_, r⟩
theorem sm_ans {u : U} {h : H} {g : AnsG} {cs : List Value} (r : rep u h g cs) : Sm (pAns g) := by
  rw [rep_ansG] at r
  obtain ⟨v1, v2, v3, v4, -, r1, r2, r3, r4⟩ := r
  have lit : ∀ {q : SlG LitG} {v : Value}, rep u h q [v] → (q.l.map pL).length ≤ 5000 ∧ ∀ x ∈ q.l.map pL, x.2.1.2.1.length ≤ 5000 := fun {q v} r => by
    refine ⟨by rw [List.length_map]; exact slg_le r, fun x hx => ?_⟩
    obtain ⟨y, hy, rfl⟩ := List.mem_map.1 hx
    obtain ⟨cs, ry⟩ := isSl_mem (slg_isSl r) hy
    rw [rep_litG] at ry
    obtain ⟨w, -, ry⟩ := ry
    exact slg_le ry
  refine ⟨⟨by show (g.1.l.map pC).length ≤ _; rw [List.length_map]; exact slg_le r1, fun c hc => ?_⟩, lit r2, ⟨by show (g.2.2.2.1.l.map pA).length ≤ _; rw [List.length_map]; exact slg_le r3, fun c hc => ?_⟩, slg_le r4⟩
  · obtain ⟨y, hy, rfl⟩ := List.mem_map.1 hc
    obtain ⟨cs, ry⟩ := isSl_mem (slg_isSl r1) hy
    rw [rep_clauseG] at ry
    obtain ⟨w, w', -, ra, rb⟩ := ry
    exact ⟨slg_le ra, (lit rb).1, (lit rb).2⟩
  · obtain ⟨y, hy, rfl⟩ := List.mem_map.1 hc
    obtain ⟨cs, ry⟩ := isSl_mem (slg_isSl r3) hy
    rw [rep_atomG] at ry
    obtain ⟨w, -, ra⟩ := ry
    exact slg_le ra
end Go.Ev
namespace Go.Proofs.YtlenjlidahnklaaDoor
open Go Go.Ev Edict HasTags
def C_deep (vs : List Value) (h : H) (K : Value → H → Prop) : Prop := ∃ (u : U) (a : AnsT) (v1 v2 v3 v4 : Value), vs = [.agg (ansE a.2.1 a.2.2.2.2.1 v1 v2 v3 v4).toArray] ∧ Rep.rep u h a (ansE a.2.1 a.2.2.2.2.1 v1 v2 v3 v4) ∧ Sm a ∧
  ∀ u' h' (g : AnsG) w1 w2 w3 w4, Step S0 u h u' h' → Rep.rep u' h' g (ansE g.2.1 g.2.2.2.2.1 w1 w2 w3 w4) → Tg h.size h'.size (tags g) → pAns g = a → K (.agg (ansE g.2.1 g.2.2.2.2.1 w1 w2 w3 w4).toArray) h'
def G_deep : Ctr := fun f vs h K _ => (f = 16 ∧ C_deepAtom vs h K) ∨ (f = 15 ∧ C_deepBody vs h K)
theorem G_deep_ok : GOk Tryd.prog G_deep := by
  rintro f vs h K KP (⟨rfl, hC⟩ | ⟨rfl, hC⟩)
  · exact owDeepAtom_ok hC
  · exact owDeepBody_ok hC
theorem owDeep_ok {vs : List Value} {h : H} {K : Value → H → Prop} {KP : List PanicEntry → H → Prop} (hC : C_deep vs h K) : HCX Tryd.prog 5 vs h K KP := by
  obtain ⟨u, ⟨ap, ⟨f1, f2, f3⟩, aq, aa, pn, ao⟩, v1, v2, v3, v4, rfl, ra, ⟨⟨m1, m2⟩, ⟨m3, m4⟩, ⟨m5, m6⟩, m7⟩, hK⟩ := hC
  simp only at m1 m2 m3 m4 m5 m6 m7
  obtain ⟨i1, i2, i3, i4⟩ := rep_ans_sl ra
  simp only at i1 i2 i3 i4
  obtain ⟨a1, c1, rfl, -, -⟩ := i1.sl
  obtain ⟨a2, c2, rfl, -, -⟩ := i2.sl
  obtain ⟨a3, c3, rfl, -, -⟩ := i3.sl
  obtain ⟨a4, c4, rfl, -, -⟩ := i4.sl
  have hm := mlenW
  refine owDeep_H G_deep G_deep_ok _ ?_
  obtain ⟨L, hL⟩ : ∃ L, L = [Value.slice a1 ap.length c1, .int .i64 f1, .int .i64 f2, .int .i64 f3, .slice a2 aq.length c2, .slice a3 aa.length c3, str pn, .slice a4 ao.length c4] := ⟨_, rfl⟩
  obtain ⟨u2, s2, A, Z⟩ := two_new (u := u) (h := h) L ansZ 34 34
  obtain ⟨h2, hh2⟩ : ∃ h2, h2 = (h.push (.cells L.toArray 34)).push (.cells ansZ.toArray 34) := ⟨_, rfl⟩
  rw [← hh2] at s2 A Z
  have z2 : h2.size = h.size + 1 + 1 := by rw [hh2]; simp
  rw [hL] at hh2 A
  unfold ansZ at hh2 Z
  clear hL L
  obtain ⟨b1, hb1⟩ : ∃ b, b = h.size := ⟨_, rfl⟩
  obtain ⟨b2, hb2⟩ : ∃ b, b = b1 + 1 := ⟨_, rfl⟩
  rw [← hb1] at A
  rw [← hb1, ← hb2] at Z
  have A1 := A.1
  have i1 := i1.mono s2.ge
  have i2 := i2.mono s2.ge
  have i3 := i3.mono s2.ge
  have i4 := i4.mono s2.ge
  simp only [ansE]
  simp (disch := first | omega | (simp only [e_ssz, e_psz, e_hszs, List.length_cons, List.length_nil]; try omega; done)) only [↓reduceIte, go_sem, owDeep_S, owDeep_E, ← hh2, ← hb1, ← hb2]
  clear hh2
  obtain ⟨M, hM⟩ : ∃ M : Env → H → Prop, M = fun σ' h' => ∃ (u3 : U) (b3 : Nat) (gq : SlG LitG) (w : Value), σ' 1 = .pointer (some ⟨b1, 0, none⟩) ∧ σ' 2 = .pointer (some ⟨b2, 0, none⟩) ∧ σ' 3 = .pointer (some ⟨b3, 0, none⟩) ∧ Step S0 u2 h2 u3 h' ∧
    Blk u3 h' b3 [.slice none 0 0, .int .i64 f1, .int .i64 f2, .int .i64 f3, w, .slice none 0 0, str pn, .slice none 0 0] ∧ Rep.rep u3 h' gq [w] ∧ Tg h2.size h'.size (tags gq) ∧ gq.l.map pL = aq ∧ h2.size ≤ b3 := ⟨_, rfl⟩
  refine w_join M ?_ ?_
  · simp (disch := first | omega | (simp only [e_ssz, e_psz, e_hszs, List.length_cons, List.length_nil]; try omega; done)) only [↓reduceIte, go_sem, w_both, A.at, A.2.1]
    have sN := Step.push0 S0 u2 h2 #[.slice none 0 0, .int .i64 0, .int .i64 0, .int .i64 0, .slice none 0 0, .slice none 0 0, str [], .slice none 0 0] 34
    have N := Blk.new (u := u2) (h := h2) [.slice none 0 0, .int .i64 0, .int .i64 0, .int .i64 0, .slice none 0 0, .slice none 0 0, str [], .slice none 0 0] 34
    have AN := A.step0 sN
    have an := AN.1
    refine ⟨effS_call (.inr ⟨rfl, u2, _, aq, rfl, i2, m4, m3, fun u3 h3 w g s3 og hg => ?_⟩), effS_call (.inr ⟨rfl, ub u2 h2.size 0, _, aq, rfl, i2.mono sN.ge, m4, m3, fun u3 h3 w g s3 og hg => ?_⟩)⟩
    · have A3 := A.step0 s3
      have A31 := A3.1
      obtain ⟨wa, wc, rfl, -, -⟩ := og.sl
      refine ⟨by simp (disch := first | omega | (simp only [e_ssz, e_psz, e_hszs, List.length_cons, List.length_nil]; try omega; done)) only [↓reduceIte, go_sem, A.at, A3.at, A3.2.1], ?_⟩
      have s4 := Step.push0 S0 u3 h3 #[.slice none 0 0, .int .i64 f1, .int .i64 f2, .int .i64 f3, .slice wa g.length wc, .slice none 0 0, str pn, .slice none 0 0] 34
      have B := Blk.new (u := u3) (h := h3) [.slice none 0 0, .int .i64 f1, .int .i64 f2, .int .i64 f3, .slice wa g.length wc, .slice none 0 0, str pn, .slice none 0 0] 34
      obtain ⟨gq, hgq, rq, tq⟩ := og.box
      have A4 := A3.step0 s4
      have A41 := A4.1
      simp (disch := first | omega | (simp only [e_ssz, e_psz, e_hszs, List.length_cons, List.length_nil]; try omega; done)) only [↓reduceIte, go_sem, A3.at, A3.2.1]
      rw [hM]
      exact ⟨_, h3.size, gq, _, by simp [upd], by simp [upd], by simp [upd], s3.trans0 s4, B, Rep.mono s4.ge rq, tq.mono (Nat.le_refl _) s4.ge.sz, by rw [hgq, hg], s3.ge.sz⟩
    · have A3 := AN.step0 s3
      have A31 := A3.1
      have N3 := N.step0 s3
      have N31 := N3.1
      obtain ⟨wa, wc, rfl, -, -⟩ := og.sl
      refine ⟨by simp (disch := first | omega | (simp only [e_ssz, e_psz, e_hszs, List.length_cons, List.length_nil]; try omega; done)) only [↓reduceIte, go_sem, AN.at, A3.at, A3.2.1], ?_⟩
      have W := N3.sets (l := [.slice none 0 0, .int .i64 f1, .int .i64 f2, .int .i64 f3, .slice wa g.length wc, .slice none 0 0, str pn, .slice none 0 0]) rfl
      have sw := N3.stepSets (o := 0) (l := [.slice none 0 0, .int .i64 f1, .int .i64 f2, .int .i64 f3, .slice wa g.length wc, .slice none 0 0, str pn, .slice none 0 0]) (by simp)
      obtain ⟨gq, hgq, rq, tq⟩ := og.box
      have zN : (h2.push (.cells #[.slice none 0 0, .int .i64 0, .int .i64 0, .int .i64 0, .slice none 0 0, .slice none 0 0, str [], .slice none 0 0] 34)).size = h2.size + 1 := by simp
      simp (disch := first | omega | (simp only [e_ssz, e_psz, e_hszs, List.length_cons, List.length_nil]; try omega; done)) only [↓reduceIte, go_sem, N3.2.1, N3.2.2.1]
      rw [hM]
      exact ⟨_, h2.size, gq, _, by simp [upd], by simp [upd], by simp [upd], (sN.trans0 s3).own sw (fun j e => by have e : j = h2.size := e; omega), W, Rep.mono sw.ge rq, tq.mono (by omega) sw.ge.sz, by rw [hgq, hg], Nat.le_refl _⟩
  intro σ3 h3 hM3
  rw [hM] at hM3
  obtain ⟨u3, b3, gq, wq, g1, g2, g3, s3, B3, rq, tq, hgq, hb3⟩ := hM3
  obtain ⟨qa, qc, rfl⟩ := slg_sl rq
  have A3 := A.step0 s3
  have Z3 := Z.step0 s3
  have st3 := s2.trans0 s3
  have b31 := B3.1
  have a31 := A3.1
  have z3 := s3.ge.sz
  have k1 := i1.mono s3.ge
  have k3 := i3.mono s3.ge
  have k4 := i4.mono s3.ge
  simp (disch := first | omega | (simp only [e_ssz, e_psz, e_hszs, List.length_cons, List.length_nil]; try omega; done)) only [↓reduceIte, go_sem, g1, A3.at, A3.2.1]
  -- the clauses
  obtain ⟨I, hI⟩ : ∃ I : Nat → Env → H → Prop, I = fun i σ h' => ∃ (u' : U) (w : Value) (acc : List ClauseG), σ 1 = .pointer (some ⟨b1, 0, none⟩) ∧ σ 2 = .pointer (some ⟨b2, 0, none⟩) ∧ σ 3 = .pointer (some ⟨b3, 0, none⟩) ∧ σ 20 = .slice a1 ap.length c1 ∧ σ 21 = .int .i64 (ap.length : Nat) ∧ σ 22 = .int .i64 (i : Nat) ∧ i ≤ ap.length ∧ Step S0 u h u' h' ∧
    Blk u' h' b1 [.slice a1 ap.length c1, .int .i64 f1, .int .i64 f2, .int .i64 f3, .slice a2 aq.length c2, .slice a3 aa.length c3, str pn, .slice a4 ao.length c4] ∧ Blk u' h' b2 [.slice none 0 0, .int .i64 0, .int .i64 0, .int .i64 0, .slice none 0 0, .slice none 0 0, str [], .slice none 0 0] ∧
    Blk u' h' b3 [w, .int .i64 f1, .int .i64 f2, .int .i64 f3, .slice qa gq.l.length qc, .slice none 0 0, str pn, .slice none 0 0] ∧ Rep.rep u' h' gq [.slice qa gq.l.length qc] ∧ OwnG h3.size u' h' w acc ∧ acc.map pC = ap.take i ∧ IsSl u' h' (.slice a1 ap.length c1) ap ∧ IsSl u' h' (.slice a3 aa.length c3) aa ∧ IsSl u' h' (.slice a4 ao.length c4) ao ∧ h3.size ≤ h'.size := ⟨_, rfl⟩
  refine wpS_loop I (fun j => ap.length - j) 0 (by rw [hI]; exact ⟨u3, _, [], by simp [upd, g1], by simp [upd, g2], by simp [upd, g3], by simp [upd], by simp [upd], by simp [upd], Nat.zero_le _, st3, A3, Z3, B3, rq, .nil _ _ _, rfl, k1, k3, k4, Nat.le_refl _⟩) ?_
  clear A3 Z3 B3 rq k1 k3 k4 st3 s3 a31 g1 g2 g3 hM A Z A1 i1 i2 i3 i4
  intro i σ h4 hy
  rw [hI] at hy
  obtain ⟨u4, w, acc, e1, e2, e3, e20, e21, e22, hi, st, A, Z, B, rq, ow, hacc, i1, i3, i4, hz34⟩ := hy
  have hal : acc.length = i := by have := congrArg List.length hacc; rw [List.length_map, List.length_take] at this; omega
  have A1 := A.1
  have Z1 := Z.1
  have B1 := B.1
  by_cases hlt : i < ap.length
  · obtain ⟨c, hc⟩ : ∃ c, ap[i]? = some c := ⟨ap[i], by simp [hlt]⟩
    obtain ⟨mc1, mc2, mc3⟩ := m2 c (List.mem_of_getElem? hc)
    have i1k := i1
    obtain ⟨pb, po, rfl, hpb, hpu, hpz, hpr⟩ := i1.row i c hc
    rw [rep_clause] at hpr
    obtain ⟨xv, xw, hpr, ixv, ixw⟩ := hpr
    obtain ⟨xa, xc, rfl, -, -⟩ := ixv.sl
    obtain ⟨ya, yc, rfl, -, -⟩ := ixw.sl
    simp only [sz_clause, hvs_4, List.cons.injEq, and_true] at hpr hpu hpz
    obtain ⟨p0, p1, p2, p3⟩ := hpr
    have s5 := Step.push0 S0 u4 h4 #[str c.1.1, .slice xa c.1.2.1.length xc, .int .i64 c.1.2.2, .slice ya c.2.length yc] 62
    have X := Blk.new (u := u4) (h := h4) [str c.1.1, .slice xa c.1.2.1.length xc, .int .i64 c.1.2.2, .slice ya c.2.length yc] 62
    obtain ⟨h5, hh5⟩ : ∃ h5, h5 = h4.push (.cells #[str c.1.1, .slice xa c.1.2.1.length xc, .int .i64 c.1.2.2, .slice ya c.2.length yc] 62) := ⟨_, rfl⟩
    obtain ⟨u5, hu5⟩ : ∃ u5, u5 = ub u4 h4.size 0 := ⟨_, rfl⟩
    have X : Blk u5 h5 h4.size [str c.1.1, .slice xa c.1.2.1.length xc, .int .i64 c.1.2.2, .slice ya c.2.length yc] := by rw [hu5, hh5]; exact X
    rw [← hh5, ← hu5] at s5
    obtain ⟨x, hx⟩ : ∃ x, x = h4.size := ⟨_, rfl⟩
    rw [← hx] at X
    have X1 := X.1
    have B5 := B.step0 s5
    have B51 := B5.1
    simp (disch := first | omega | (simp only [e_ssz, e_psz, e_hszs, List.length_cons, List.length_nil]; try omega; done)) only [↓reduceIte, go_sem, owDeep_L1, e3, e20, e21, e22, hlt, p0, p1, p2, p3, ← hh5, ← hx, X.at, X.2.1, B5.at, B5.2.1]
    clear hh5 hu5
    refine effS_call (.inl ⟨rfl, u5, c.1, _, rfl, ixv.mono s5.ge, mc1, fun u6 h6 y s6 oy => ?_⟩)
    obtain ⟨ta, tc, rfl, -, -⟩ := oy.sl
    have X6 := X.step0 s6
    have X61 := X6.1
    have B6 := B5.step0 s6
    have B61 := B6.1
    refine ⟨by simp (disch := first | omega | (simp only [e_ssz, e_psz, e_hszs, List.length_cons, List.length_nil]; try omega; done)) only [↓reduceIte, go_sem, e3, X.at, X6.at, X6.2.1, B5.at, B6.at, B6.2.1], ?_⟩
    have s56 := s5.trans0 s6
    simp (disch := first | omega | (simp only [e_ssz, e_psz, e_hszs, List.length_cons, List.length_nil]; try omega; done)) only [↓reduceIte, go_sem]
    refine effS_call (.inr ⟨rfl, u6, _, c.2, rfl, ixw.mono s56.ge, mc3, mc2, fun u7 h7 z gb s7 ob hgb => ?_⟩)
    obtain ⟨za, zc, rfl, -, -⟩ := ob.sl
    have B7 := B6.step0 s7
    have B71 := B7.1
    refine ⟨by simp (disch := first | omega | (simp only [e_ssz, e_psz, e_hszs, List.length_cons, List.length_nil]; try omega; done)) only [↓reduceIte, go_sem, e3, B6.at, B7.at, B7.2.1], ?_⟩
    have s57 := s56.trans0 s7
    obtain ⟨ga, hga, rga6, tga6⟩ := (oy.toG tags_term mc1).box
    have rga := Rep.mono s7.ge rga6
    obtain ⟨gs, hgs, rgs, tgs⟩ := ob.box
    obtain ⟨g, hg⟩ : ∃ g : ClauseG, g = ((c.1.1, ga, c.1.2.2), gs) := ⟨_, rfl⟩
    have hpg : pC g = c := by rw [hg]; unfold pC pA; simp only; rw [hga, hgs, hgb]
    have hlb : gb.length = gs.l.length := by rw [hgs]
    have z45 := s5.ge.sz
    have z56 := s6.ge.sz
    have z67 := s7.ge.sz
    have htg : Tg h4.size h7.size (tags g) := by rw [tags_cl, hg]; exact (tga6.mono (by omega) (Nat.le_refl _)).app tgs (by omega) (by omega)
    have hrep : Rep.rep u7 h7 g [str c.1.1, .slice ta c.1.2.1.length tc, .int .i64 c.1.2.2, .slice za gb.length zc] := by
      rw [rep_clauseG, hg]; exact ⟨_, _, rfl, rga, rgs⟩
    have ow7 := ow.step0 s57
    have sP := Step.push0 S0 u7 h7 #[str c.1.1, .slice ta c.1.2.1.length tc, .int .i64 c.1.2.2, .slice za gb.length zc] 62
    have BP := B7.step0 sP
    have BP1 := BP.1
    simp (disch := first | omega | (simp only [e_ssz, e_psz, e_hszs, List.length_cons, List.length_nil]; try omega; done)) only [↓reduceIte, go_sem, B7.at, BP.at, BP.2.1, e3]
    refine effS_app1g rfl ow7 (x := g) ow.tg htg hz34 (by omega) hrep rfl rfl (by omega) (by omega) fun a8 n8 c8 u8 h8 o8 s8 hO8 => ⟨by simp (disch := first | omega | (simp only [e_ssz, e_psz, e_hszs, List.length_cons, List.length_nil]; try omega; done)) only [go_sem], ?_⟩
    have ne : ∀ j, OwnB w j → h3.size ≤ j := fun j q => ow.ge q
    have zz := st.ge.sz
    have A8 := (A.step0 s57).step s8 (fun q => by have := ne _ q; omega)
    have Z8 := (Z.step0 s57).step s8 (fun q => by have := ne _ q; omega)
    have B8 := B7.step s8 (fun q => by have := ne _ q; omega)
    have B81 := B8.1
    have B9 := B8.set (i := 0) (v := .slice a8 n8 c8) (by simp)
    have s9 := B8.stepSet (i := 0) (v := .slice a8 n8 c8)
    obtain ⟨h9, hh9⟩ : ∃ h9, h9 = hset h8 b3 0 (.slice a8 n8 c8) := ⟨_, rfl⟩
    rw [← hh9] at B9 s9
    simp only [List.set_cons_zero] at B9
    have z78 := s8.ge.sz
    have z89 := s9.ge.sz
    simp (disch := first | omega | (simp only [e_ssz, e_psz, e_hszs, List.length_cons, List.length_nil]; try omega; done)) only [↓reduceIte, go_sem, e3, B8.2.1, B8.2.2.1, ← hh9, e22]
    refine ⟨i + 1, ?_, by omega⟩
    rw [hI]
    refine ⟨u8, _, acc ++ [g], by simp [upd, e1], by simp [upd, e2], by simp [upd, e3], by simp [upd, e20], by simp [upd, e21], by simp [upd], hlt, ((st.trans0 s57).own s8 (fun j q => by have := ne _ q; omega)).own s9 (fun j e => by have e : j = b3 := e; omega), A8.step s9 (by omega), Z8.step s9 (by omega), B9, Rep.mono s9.ge (Rep.mono s8.ge (Rep.mono s57.ge rq)), o8.step s9 (fun j q e => by have := o8.ge q; have e : j = b3 := e; omega), ?_, ((i1k.mono s57.ge).mono s8.ge).mono s9.ge, ((i3.mono s57.ge).mono s8.ge).mono s9.ge, ((i4.mono s57.ge).mono s8.ge).mono s9.ge, by omega⟩
    rw [List.map_append, hacc, List.map_cons, hpg, List.take_add_one, hc]; rfl
  · obtain rfl : i = ap.length := by omega
    rw [List.take_length] at hacc
    have hz4 := hz34
    obtain ⟨gp, hgp, rp, tp⟩ := ow.box
    obtain ⟨wa, wc, rfl, -, -⟩ := ow.sl
    simp (disch := first | omega | (simp only [e_ssz, e_psz, e_hszs, List.length_cons, List.length_nil]; try omega; done)) only [↓reduceIte, go_sem, owDeep_L1, e1, e21, e22, A.at, A.2.1]
    clear hI e20 e21 e22
    -- the facts
    obtain ⟨J, hJ⟩ : ∃ J : Nat → Env → H → Prop, J = fun i σ h' => ∃ (u' : U) (w : Value) (acc' : List AtomG), σ 1 = .pointer (some ⟨b1, 0, none⟩) ∧ σ 2 = .pointer (some ⟨b2, 0, none⟩) ∧ σ 3 = .pointer (some ⟨b3, 0, none⟩) ∧ σ 42 = .slice a3 aa.length c3 ∧ σ 43 = .int .i64 (aa.length : Nat) ∧ σ 44 = .int .i64 (i : Nat) ∧ i ≤ aa.length ∧ Step S0 u h u' h' ∧
      Blk u' h' b1 [.slice a1 ap.length c1, .int .i64 f1, .int .i64 f2, .int .i64 f3, .slice a2 aq.length c2, .slice a3 aa.length c3, str pn, .slice a4 ao.length c4] ∧ Blk u' h' b2 [.slice none 0 0, .int .i64 0, .int .i64 0, .int .i64 0, .slice none 0 0, .slice none 0 0, str [], .slice none 0 0] ∧
      Blk u' h' b3 [.slice wa acc.length wc, .int .i64 f1, .int .i64 f2, .int .i64 f3, .slice qa gq.l.length qc, w, str pn, .slice none 0 0] ∧ Rep.rep u' h' gq [.slice qa gq.l.length qc] ∧ Rep.rep u' h' gp [.slice wa acc.length wc] ∧ OwnG h4.size u' h' w acc' ∧ acc'.map pA = aa.take i ∧ IsSl u' h' (.slice a3 aa.length c3) aa ∧ IsSl u' h' (.slice a4 ao.length c4) ao ∧ h4.size ≤ h'.size := ⟨_, rfl⟩
    refine wpS_loop J (fun j => aa.length - j) 0 (by rw [hJ]; exact ⟨u4, _, [], by simp [upd, e1], by simp [upd, e2], by simp [upd, e3], by simp [upd], by simp [upd], by simp [upd], Nat.zero_le _, st, A, Z, B, rq, rp, .nil _ _ _, rfl, i3, i4, Nat.le_refl _⟩) ?_
    have hzz := st.ge.sz
    clear A Z B rq rp st A1 Z1 B1 e1 e2 e3 i3 i4 ow
    intro i σ' h5 hy
    rw [hJ] at hy
    obtain ⟨u5, w, acc', e1, e2, e3, e42, e43, e44, hi5, st, A, Z, B, rq, rp, ow, hacc', i3, i4, hz45⟩ := hy
    have hal' : acc'.length = i := by have := congrArg List.length hacc'; rw [List.length_map, List.length_take] at this; omega
    have A1 := A.1
    have Z1 := Z.1
    have B1 := B.1
    by_cases hlt : i < aa.length
    · obtain ⟨x, hx⟩ : ∃ x, aa[i]? = some x := ⟨aa[i], by simp [hlt]⟩
      have mx := m6 x (List.mem_of_getElem? hx)
      have i3k := i3
      obtain ⟨pb, po, rfl, hpb, hpu, hpz, hpr⟩ := i3.row i x hx
      rw [rep_atom] at hpr
      obtain ⟨xv, hpr, ixv⟩ := hpr
      obtain ⟨xa, xc, rfl, -, -⟩ := ixv.sl
      simp only [sz_atom, hvs_3, List.cons.injEq, and_true] at hpr hpu hpz
      obtain ⟨p0, p1, p2⟩ := hpr
      have s6 := Step.push0 S0 u5 h5 #[str x.1, .slice xa x.2.1.length xc, .int .i64 x.2.2] 60
      have X := Blk.new (u := u5) (h := h5) [str x.1, .slice xa x.2.1.length xc, .int .i64 x.2.2] 60
      obtain ⟨h6, hh6⟩ : ∃ h6, h6 = h5.push (.cells #[str x.1, .slice xa x.2.1.length xc, .int .i64 x.2.2] 60) := ⟨_, rfl⟩
      obtain ⟨u6, hu6⟩ : ∃ u6, u6 = ub u5 h5.size 0 := ⟨_, rfl⟩
      have X : Blk u6 h6 h5.size [str x.1, .slice xa x.2.1.length xc, .int .i64 x.2.2] := by rw [hu6, hh6]; exact X
      rw [← hh6, ← hu6] at s6
      obtain ⟨y, hy⟩ : ∃ y, y = h5.size := ⟨_, rfl⟩
      rw [← hy] at X
      have X1 := X.1
      have B6 := B.step0 s6
      have B61 := B6.1
      simp (disch := first | omega | (simp only [e_ssz, e_psz, e_hszs, List.length_cons, List.length_nil]; try omega; done)) only [↓reduceIte, go_sem, owDeep_L2, e3, e42, e43, e44, hlt, p0, p1, p2, ← hh6, ← hy, X.at, X.2.1, B6.at, B6.2.1]
      clear hh6 hu6
      refine effS_call (.inl ⟨rfl, u6, x, _, rfl, ixv.mono s6.ge, mx, fun u7 h7 z s7 oz => ?_⟩)
      obtain ⟨ta, tc, rfl, -, -⟩ := oz.sl
      have B7 := B6.step0 s7
      have B71 := B7.1
      refine ⟨by simp (disch := first | omega | (simp only [e_ssz, e_psz, e_hszs, List.length_cons, List.length_nil]; try omega; done)) only [↓reduceIte, go_sem, e3, B6.at, B7.at, B7.2.1], ?_⟩
      have s67 := s6.trans0 s7
      obtain ⟨ga, hga, rga, tga⟩ := (oz.toG tags_term mx).box
      obtain ⟨g, hg⟩ : ∃ g : AtomG, g = (x.1, ga, x.2.2) := ⟨_, rfl⟩
      have hpg : pA g = x := by rw [hg]; unfold pA; simp only; rw [hga]
      have z56 := s6.ge.sz
      have z67 := s7.ge.sz
      have htg : Tg h5.size h7.size (tags g) := by rw [tags_at, hg]; exact tga.mono (by omega) (Nat.le_refl _)
      have hrep : Rep.rep u7 h7 g [str x.1, .slice ta x.2.1.length tc, .int .i64 x.2.2] := by
        rw [rep_atomG, hg]; exact ⟨_, rfl, rga⟩
      have ow7 := ow.step0 s67
      have sP := Step.push0 S0 u7 h7 #[str x.1, .slice ta x.2.1.length tc, .int .i64 x.2.2] 60
      have BP := B7.step0 sP
      have BP1 := BP.1
      simp (disch := first | omega | (simp only [e_ssz, e_psz, e_hszs, List.length_cons, List.length_nil]; try omega; done)) only [↓reduceIte, go_sem, B7.at, BP.at, BP.2.1, e3]
      refine effS_app1g rfl ow7 (x := g) ow.tg htg hz45 (by omega) hrep rfl rfl (by omega) (by omega) fun a8 n8 c8 u8 h8 o8 s8 hO8 => ⟨by simp (disch := first | omega | (simp only [e_ssz, e_psz, e_hszs, List.length_cons, List.length_nil]; try omega; done)) only [go_sem], ?_⟩
      have ne : ∀ j, OwnB w j → h4.size ≤ j := fun j q => ow.ge q
      have zz := st.ge.sz
      have A8 := (A.step0 s67).step s8 (fun q => by have := ne _ q; omega)
      have Z8 := (Z.step0 s67).step s8 (fun q => by have := ne _ q; omega)
      have B8 := B7.step s8 (fun q => by have := ne _ q; omega)
      have B81 := B8.1
      have B9 := B8.set (i := 5) (v := .slice a8 n8 c8) (by simp)
      have s9 := B8.stepSet (i := 5) (v := .slice a8 n8 c8)
      obtain ⟨h9, hh9⟩ : ∃ h9, h9 = hset h8 b3 5 (.slice a8 n8 c8) := ⟨_, rfl⟩
      rw [← hh9] at B9 s9
      simp only [List.set_cons_zero, List.set_cons_succ] at B9
      have z78 := s8.ge.sz
      have z89 := s9.ge.sz
      simp (disch := first | omega | (simp only [e_ssz, e_psz, e_hszs, List.length_cons, List.length_nil]; try omega; done)) only [↓reduceIte, go_sem, e3, B8.2.1, B8.2.2.1, ← hh9, e44]
      refine ⟨i + 1, ?_, by omega⟩
      rw [hJ]
      refine ⟨u8, _, acc' ++ [g], by simp [upd, e1], by simp [upd, e2], by simp [upd, e3], by simp [upd, e42], by simp [upd, e43], by simp [upd], hlt, ((st.trans0 s67).own s8 (fun j q => by have := ne _ q; omega)).own s9 (fun j e => by have e : j = b3 := e; omega), A8.step s9 (by omega), Z8.step s9 (by omega), B9, Rep.mono s9.ge (Rep.mono s8.ge (Rep.mono s67.ge rq)), Rep.mono s9.ge (Rep.mono s8.ge (Rep.mono s67.ge rp)), o8.step s9 (fun j q e => by have := o8.ge q; have e : j = b3 := e; omega), ?_, ((i3k.mono s67.ge).mono s8.ge).mono s9.ge, ((i4.mono s67.ge).mono s8.ge).mono s9.ge, by omega⟩
      rw [List.map_append, hacc', List.map_cons, hpg, List.take_add_one, hx]; rfl
    · obtain rfl : i = aa.length := by omega
      rw [List.take_length] at hacc'
      obtain ⟨gl, hgl, rl, tl⟩ := ow.box
      obtain ⟨la, lc, rfl, -, -⟩ := ow.sl
      simp (disch := first | omega | (simp only [e_ssz, e_psz, e_hszs, List.length_cons, List.length_nil]; try omega; done)) only [↓reduceIte, go_sem, owDeep_L2, e1, e3, e43, e44, A.at, A.2.1, B.at, B.2.1]
      refine effS_app (k := h5.size) (Own.nil h5.size u5 h5) i4 rfl rfl (Nat.le_refl _) (by simp only [List.length_nil]; omega) fun a7 n7 c7 u7 h7 o7 s7 => ⟨by simp (disch := first | omega | (simp only [e_ssz, e_psz, e_hszs, List.length_cons, List.length_nil]; try omega; done)) only [go_sem], ?_⟩
      rw [List.nil_append] at o7
      have B7 := B.step s7 ownb_nil
      have Z7 := Z.step s7 ownb_nil
      have B71 := B7.1
      obtain ⟨_, _, hme, -, -⟩ := o7.sl
      simp only [Value.slice.injEq] at hme
      obtain ⟨rfl, rfl, rfl⟩ := hme
      have B8 := B7.set (i := 7) (v := .slice a7 ao.length c7) (by simp)
      have s8 := B7.stepSet (i := 7) (v := .slice a7 ao.length c7)
      obtain ⟨h8, hh8⟩ : ∃ h8, h8 = hset h7 b3 7 (.slice a7 ao.length c7) := ⟨_, rfl⟩
      rw [← hh8] at B8 s8
      simp only [List.set_cons_zero, List.set_cons_succ] at B8
      have B81 := B8.1
      have Z8 := Z7.step s8 (by omega)
      have W := Z8.sets (l := [.slice wa acc.length wc, .int .i64 f1, .int .i64 f2, .int .i64 f3, .slice qa gq.l.length qc, .slice la acc'.length lc, str pn, .slice a7 ao.length c7]) rfl
      have s9 := Z8.stepSets (o := 0) (l := [.slice wa acc.length wc, .int .i64 f1, .int .i64 f2, .int .i64 f3, .slice qa gq.l.length qc, .slice la acc'.length lc, str pn, .slice a7 ao.length c7]) (by simp)
      obtain ⟨h9, hh9⟩ : ∃ h9, h9 = hsets h8 b2 0 [.slice wa acc.length wc, .int .i64 f1, .int .i64 f2, .int .i64 f3, .slice qa gq.l.length qc, .slice la acc'.length lc, str pn, .slice a7 ao.length c7] := ⟨_, rfl⟩
      rw [← hh9] at W s9
      have W1 := W.1
      obtain ⟨go, hgo, ro, to⟩ := (o7.toG tags_const m7).box
      have z57 := s7.ge.sz
      have z78 := s8.ge.sz
      have z89 := s9.ge.sz
      have zst := st.ge.sz
      have s79 : ∀ {α : Type} [Rep α] {x : α} {cs : List Value}, Rep.rep u5 h5 x cs → Rep.rep u7 h9 x cs := fun r => Rep.mono s9.ge (Rep.mono s8.ge (Rep.mono s7.ge r))
      have hK' := hK u7 h9 (gp, (f1, f2, f3), gq, gl, pn, go) (.slice wa acc.length wc) (.slice qa gq.l.length qc) (.slice la acc'.length lc) (.slice a7 ao.length c7) (((st.own s7 (fun j q => (ownb_nil q).elim)).own s8 (fun j e => by have e : j = b3 := e; omega)).own s9 (fun j e => by have e : j = b2 := e; omega)) (by
        rw [rep_ansG]
        exact ⟨_, _, _, _, rfl, s79 rp, s79 rq, s79 rl, Rep.mono s9.ge (Rep.mono s8.ge ro)⟩) (by
        rw [tags_ans]
        have t1 : Tg h.size h4.size (tags gp ++ tags gq) := ((tq.mono (lo' := h.size) (by omega) (Nat.le_refl _)).app tp (by omega) (by omega)).swap
        have t2 : Tg h4.size h9.size (tags gl ++ tags go) := tl.app (to.mono (Nat.le_refl _) (by omega)) (by omega) (by omega)
        have := t1.app t2 (by omega) (by omega)
        rw [List.append_assoc] at this
        exact this) (by
        unfold pAns
        simp only
        rw [hgp, hacc, hgq, hgl, hacc', hgo])
      simp only [ansE] at hK'
      simp (disch := first | omega | (simp only [e_ssz, e_psz, e_hszs, List.length_cons, List.length_nil]; try omega; done)) only [↓reduceIte, go_sem, B7.2.1, B7.2.2.1, ← hh8, B8.at, B8.2.1, Z8.2.1, Z8.2.2.1, ← hh9, W.at, W.2.1, e2, e3]
      exact hK'
end Go.Proofs.YtlenjlidahnklaaDoor
