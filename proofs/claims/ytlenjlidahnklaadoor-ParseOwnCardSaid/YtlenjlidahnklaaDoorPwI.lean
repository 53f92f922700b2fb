/- ParseOwn: add. -/
import Derived.Test.YtlenjlidahnklaaDoorPwH
namespace Go.Proofs.YtlenjlidahnklaaDoor
open Go Go.Ev Edict HasTags
def C_add (vs : List Value) (h : H) (K : Value → H → Prop) : Prop := ∃ (u : U) (bb : Nat) (m : BkM) (v0 v2 v4 v6 v8 : Value) (g : AnsG) (x1 x2 x3 x4 : Value), vs = [.pointer (some ⟨bb, 0, none⟩), .agg (ansE g.2.1 g.2.2.2.2.1 x1 x2 x3 x4).toArray] ∧ BkS bb u h m v0 v2 v4 v6 v8 ∧ Rep.rep u h g (ansE g.2.1 g.2.2.2.2.1 x1 x2 x3 x4) ∧ m.len ≤ 800000000 ∧
  ∀ u' h' m' w0 w2 w4 w6 w8, Step (BkB bb v0 v2 v4 v6 v8) u h u' h' → Nx bb v0 v2 v4 v6 v8 h w0 w2 w4 w6 w8 → BkS bb u' h' m' w0 w2 w4 w6 w8 → Ad m m' (tags g) 26000000 → K (.tuple #[]) h'
def G_add : Ctr := fun f vs h K _ => (f = 21 ∧ C_addArgs vs h K) ∨ (f = 22 ∧ C_addBody vs h K)
theorem G_add_ok : GOk Tryd.prog G_add := by
  rintro f vs h K KP (⟨rfl, hC⟩ | ⟨rfl, hC⟩)
  · exact owAddArgs_ok hC
  · exact owAddBody_ok hC
theorem rep_ansG_sl {u : U} {h : H} {a : AnsG} {f : Int × Int × Int} {s : List UInt8} {v1 v2 v3 v4 : Value} (r : Rep.rep u h a (ansE f s v1 v2 v3 v4)) : Rep.rep u h a.1 [v1] ∧ Rep.rep u h a.2.2.1 [v2] ∧ Rep.rep u h a.2.2.2.1 [v3] ∧ Rep.rep u h a.2.2.2.2.2 [v4] := by
  rw [rep_ansG] at r
  obtain ⟨w1, w2, w3, w4, e, i1, i2, i3, i4⟩ := r
  simp only [ansE, List.cons.injEq, and_true] at e
  obtain ⟨rfl, -, -, -, rfl, rfl, -, rfl⟩ := e
  exact ⟨i1, i2, i3, i4⟩
theorem owAdd_ok {vs : List Value} {h : H} {K : Value → H → Prop} {KP : List PanicEntry → H → Prop} (hC : C_add vs h K) : HCX Tryd.prog 7 vs h K KP := by
  obtain ⟨u, bb, m, v0, v2, v4, v6, v8, ⟨gp, ⟨f1, f2, f3⟩, gq, ga, pn, go⟩, x1, x2, x3, x4, rfl, b, r, hl, hK⟩ := hC
  rw [tags_ans] at hK
  simp only at hK
  obtain ⟨r1, r2, r3, r4⟩ := rep_ansG_sl r
  simp only at r1 r2 r3 r4
  clear r
  obtain ⟨a1, c1, rfl⟩ := slg_sl r1
  obtain ⟨a2, c2, rfl⟩ := slg_sl r2
  obtain ⟨a3, c3, rfl⟩ := slg_sl r3
  obtain ⟨a4, c4, rfl⟩ := slg_sl r4
  have hle1 := slg_le r1
  have hle3 := slg_le r3
  have hm := mlenW
  refine owAdd_H G_add G_add_ok _ _ ?_
  obtain ⟨L, hL⟩ : ∃ L, L = [Value.slice a1 gp.l.length c1, .int .i64 f1, .int .i64 f2, .int .i64 f3, .slice a2 gq.l.length c2, .slice a3 ga.l.length c3, str pn, .slice a4 go.l.length c4] := ⟨_, rfl⟩
  have s1 := Step.push0 S0 u h L.toArray 34
  have A := Blk.new (u := u) (h := h) L 34
  obtain ⟨h1, hh1⟩ : ∃ h1, h1 = h.push (.cells L.toArray 34) := ⟨_, rfl⟩
  obtain ⟨u1, hu1⟩ : ∃ u1, u1 = ub u h.size 0 := ⟨_, rfl⟩
  have A : Blk u1 h1 h.size L := by rw [hu1, hh1]; exact A
  rw [← hh1, ← hu1] at s1
  rw [hL] at A hh1
  have b1 := b.step0 s1
  have A1 := A.1
  have q1 := Rep.mono s1.ge r1
  have q2 := Rep.mono s1.ge r2
  have q3 := Rep.mono s1.ge r3
  have q4 := Rep.mono s1.ge r4
  simp only [ansE]
  simp (disch := first | omega | (simp only [e_ssz, e_psz, e_hszs, List.length_cons, List.length_nil]; try omega; done)) only [↓reduceIte, go_sem, owAdd_S, owAdd_E, ← hh1, A.at, A.2.1]
  clear hh1 hu1 hL r1 r2 r3 r4
  obtain ⟨b3, hb3⟩ : ∃ b3, b3 = h.size := ⟨_, rfl⟩
  rw [← hb3] at A ⊢
  have hb3n : ∀ {j}, BkB bb v0 v2 v4 v6 v8 j → j < b3 := fun q => by have := (b.own q).2; omega
  -- the clauses
  obtain ⟨I, hI⟩ : ∃ I : Nat → Env → H → Prop, I = fun i σ h' => ∃ (u' : U) (m' : BkM) (w0 w2 w4 w6 w8 : Value), σ 0 = .pointer (some ⟨bb, 0, none⟩) ∧ σ 3 = .pointer (some ⟨b3, 0, none⟩) ∧ σ 10 = .slice a1 gp.l.length c1 ∧ σ 11 = .int .i64 (gp.l.length : Nat) ∧ σ 12 = .int .i64 (i : Nat) ∧ i ≤ gp.l.length ∧ Step (BkB bb v0 v2 v4 v6 v8) u h u' h' ∧ Nx bb v0 v2 v4 v6 v8 h w0 w2 w4 w6 w8 ∧ BkS bb u' h' m' w0 w2 w4 w6 w8 ∧
    Blk u' h' b3 [.slice a1 gp.l.length c1, .int .i64 f1, .int .i64 f2, .int .i64 f3, .slice a2 gq.l.length c2, .slice a3 ga.l.length c3, str pn, .slice a4 go.l.length c4] ∧ ¬ BkB bb w0 w2 w4 w6 w8 b3 ∧
    Rep.rep u' h' gp [.slice a1 gp.l.length c1] ∧ Rep.rep u' h' gq [.slice a2 gq.l.length c2] ∧ Rep.rep u' h' ga [.slice a3 ga.l.length c3] ∧ Rep.rep u' h' go [.slice a4 go.l.length c4] ∧ Ad m m' ((gp.l.take i).flatMap tags) (i * 5002) := ⟨_, rfl⟩
  refine wpS_loop I (fun j => gp.l.length - j) 0 (by rw [hI]; exact ⟨u1, m, _, _, _, _, _, by simp [upd], by simp [upd], by simp [upd], by simp [upd], by simp [upd], Nat.zero_le _, s1.mono (fun _ _ q => q.elim), .refl _ _ _ _ _ _ _, b1, A, fun q => by have := hb3n q; omega, q1, q2, q3, q4, .refl _ _ _⟩) ?_
  clear b1 A A1 q1 q2 q3 q4 s1
  intro i σ h2 hy
  rw [hI] at hy
  obtain ⟨u2, m2, w0, w2, w4, w6, w8, e0, e3, e10, e11, e12, hi, st, nx, b2, A, hnb, q1, q2, q3, q4, ad⟩ := hy
  have A1 := A.1
  have hbb := b2.B.1
  have hlen := ad.2
  have hz0 := st.ge.sz
  by_cases hlt : i < gp.l.length
  · obtain ⟨c, hc⟩ : ∃ c, gp.l[i]? = some c := ⟨gp.l[i], by simp [hlt]⟩
    obtain ⟨pb, po, hxa, hpb, hpu, hpz, hpr⟩ := (slg_isSl q1).row i c hc
    subst hxa
    rw [rep_clauseG] at hpr
    obtain ⟨xv, xw, hpr, rx, ry⟩ := hpr
    obtain ⟨xa, xc, rfl⟩ := slg_sl rx
    obtain ⟨ya, yc, rfl⟩ := slg_sl ry
    simp only [sz_clauseG, hvs_4, List.cons.injEq, and_true] at hpr hpu hpz
    obtain ⟨p0, p1, p2, p3⟩ := hpr
    have s5 := Step.push0 S0 u2 h2 #[str c.1.1, .slice xa c.1.2.1.l.length xc, .int .i64 c.1.2.2, .slice ya c.2.l.length yc] 62
    have X := Blk.new (u := u2) (h := h2) [str c.1.1, .slice xa c.1.2.1.l.length xc, .int .i64 c.1.2.2, .slice ya c.2.l.length yc] 62
    obtain ⟨h5, hh5⟩ : ∃ h5, h5 = h2.push (.cells #[str c.1.1, .slice xa c.1.2.1.l.length xc, .int .i64 c.1.2.2, .slice ya c.2.l.length yc] 62) := ⟨_, rfl⟩
    obtain ⟨u5, hu5⟩ : ∃ u5, u5 = ub u2 h2.size 0 := ⟨_, rfl⟩
    have X : Blk u5 h5 h2.size [str c.1.1, .slice xa c.1.2.1.l.length xc, .int .i64 c.1.2.2, .slice ya c.2.l.length yc] := by rw [hu5, hh5]; exact X
    rw [← hh5, ← hu5] at s5
    obtain ⟨x, hx⟩ : ∃ x, x = h2.size := ⟨_, rfl⟩
    rw [← hx] at X
    have X1 := X.1
    simp (disch := first | omega | (simp only [e_ssz, e_psz, e_hszs, List.length_cons, List.length_nil]; try omega; done)) only [↓reduceIte, go_sem, owAdd_L1, e0, e10, e11, e12, hlt, p0, p1, p2, p3, ← hh5, ← hx, X.at, X.2.1]
    clear hh5 hu5
    refine effS_call (.inl ⟨rfl, u5, bb, m2, w0, w2, w4, w6, w8, _, c.1.2.1, rfl, b2.step0 s5, Rep.mono s5.ge rx, by omega, fun u6 h6 m6 z0 z2 z4 z6 z8 s6 n6 b6 ad6 => ⟨by simp (disch := first | omega | (simp only [e_ssz, e_psz, e_hszs, List.length_cons, List.length_nil]; try omega; done)) only [go_sem], ?_⟩⟩)
    have hxn : ¬ BkB bb w0 w2 w4 w6 w8 x := fun q => by have := (b2.own q).2; omega
    have X6 := X.step s6 hxn
    have X61 := X6.1
    have hlen6 := ad6.2
    simp (disch := first | omega | (simp only [e_ssz, e_psz, e_hszs, List.length_cons, List.length_nil]; try omega; done)) only [↓reduceIte, go_sem, X6.at, X6.2.1, e0]
    refine effS_call (.inr ⟨rfl, u6, bb, m6, z0, z2, z4, z6, z8, _, c.2, rfl, b6, Rep.mono s6.ge (Rep.mono s5.ge ry), by omega, fun u7 h7 m7 y0 y2 y4 y6 y8 s7 n7 b7 ad7 => ⟨by simp (disch := first | omega | (simp only [e_ssz, e_psz, e_hszs, List.length_cons, List.length_nil]; try omega; done)) only [go_sem], ?_⟩⟩)
    simp (disch := first | omega | (simp only [e_ssz, e_psz, e_hszs, List.length_cons, List.length_nil]; try omega; done)) only [↓reduceIte, go_sem, e12]
    have z25 := s5.ge.sz
    have z56 := s6.ge.sz
    have s57 : Step (BkB bb w0 w2 w4 w6 w8) u2 h2 u7 h7 := (s5.mono (fun _ _ q => q.elim)).trans (Nx.step s6 n6 s7) (fun j _ q => q)
    have n57 : Nx bb w0 w2 w4 w6 w8 h2 y0 y2 y4 y6 y8 := fun j q => ((n6.trans n7 z56) j q).imp id (fun q => by omega)
    refine ⟨i + 1, ?_, by omega⟩
    rw [hI]
    refine ⟨u7, m7, _, _, _, _, _, by simp [upd, e0], by simp [upd, e3], by simp [upd, e10], by simp [upd, e11], by simp [upd], hlt, Nx.step st nx s57, nx.trans n57 hz0, b7, A.step s57 hnb, fun q => (n57 _ q).elim hnb (fun q => by omega), Rep.mono s57.ge q1, Rep.mono s57.ge q2, Rep.mono s57.ge q3, Rep.mono s57.ge q4, ?_⟩
    have e : (gp.l.take (i + 1)).flatMap tags = (gp.l.take i).flatMap tags ++ (tags c.1.2.1 ++ tags c.2) := by
      rw [List.take_add_one, hc, List.flatMap_append, ← tags_cl]; simp
    rw [e]
    exact (ad.trans (ad6.trans ad7)).le (fun _ => Nat.le_refl _) (by omega)
  obtain rfl : i = gp.l.length := by omega
  rw [List.take_length] at ad
  clear hI
  simp (disch := first | omega | (simp only [e_ssz, e_psz, e_hszs, List.length_cons, List.length_nil]; try omega; done)) only [↓reduceIte, go_sem, owAdd_L1, e0, e3, e11, e12, A.at, A.2.1]
  -- the query
  refine effS_call (.inr ⟨rfl, u2, bb, m2, w0, w2, w4, w6, w8, _, gq, rfl, b2, q2, by omega, fun u3 h3 m3 y0 y2 y4 y6 y8 s3 n3 b4 ad3 => ⟨by simp (disch := first | omega | (simp only [e_ssz, e_psz, e_hszs, List.length_cons, List.length_nil]; try omega; done)) only [go_sem], ?_⟩⟩)
  have hz3 := s3.ge.sz
  have st3 := Nx.step st nx s3
  have nx3 := nx.trans n3 hz0
  have A3 := A.step s3 hnb
  have hnb3 : ¬ BkB bb y0 y2 y4 y6 y8 b3 := fun q => (n3 _ q).elim hnb (fun q => by omega)
  have ad13 := ad.trans ad3
  have k1 := Rep.mono s3.ge q1
  have k3 := Rep.mono s3.ge q3
  have k4 := Rep.mono s3.ge q4
  have A31 := A3.1
  simp (disch := first | omega | (simp only [e_ssz, e_psz, e_hszs, List.length_cons, List.length_nil]; try omega; done)) only [↓reduceIte, go_sem, e3, A3.at, A3.2.1]
  clear st nx b2 A hnb q1 q2 q3 q4 s3 n3 hlt ad3 hlen
  -- the facts
  obtain ⟨J, hJ⟩ : ∃ J : Nat → Env → H → Prop, J = fun i σ h' => ∃ (u' : U) (m' : BkM) (w0 w2 w4 w6 w8 : Value), σ 0 = .pointer (some ⟨bb, 0, none⟩) ∧ σ 3 = .pointer (some ⟨b3, 0, none⟩) ∧ σ 31 = .slice a3 ga.l.length c3 ∧ σ 32 = .int .i64 (ga.l.length : Nat) ∧ σ 33 = .int .i64 (i : Nat) ∧ i ≤ ga.l.length ∧ Step (BkB bb v0 v2 v4 v6 v8) u h u' h' ∧ Nx bb v0 v2 v4 v6 v8 h w0 w2 w4 w6 w8 ∧ BkS bb u' h' m' w0 w2 w4 w6 w8 ∧
    Blk u' h' b3 [.slice a1 gp.l.length c1, .int .i64 f1, .int .i64 f2, .int .i64 f3, .slice a2 gq.l.length c2, .slice a3 ga.l.length c3, str pn, .slice a4 go.l.length c4] ∧ ¬ BkB bb w0 w2 w4 w6 w8 b3 ∧
    Rep.rep u' h' gp [.slice a1 gp.l.length c1] ∧ Rep.rep u' h' ga [.slice a3 ga.l.length c3] ∧ Rep.rep u' h' go [.slice a4 go.l.length c4] ∧ Ad m m' ((gp.l.flatMap tags ++ tags gq) ++ (ga.l.take i).flatMap tags) (gp.l.length * 5002 + 5001 + i) := ⟨_, rfl⟩
  refine wpS_loop J (fun j => ga.l.length - j) 0 (by rw [hJ]; exact ⟨u3, m3, _, _, _, _, _, by simp [upd, e0], by simp [upd, e3], by simp [upd], by simp [upd], by simp [upd], Nat.zero_le _, st3, nx3, b4, A3, hnb3, k1, k3, k4, by simpa using ad13⟩) ?_
  clear st3 nx3 b4 A3 A31 hnb3 ad13 k1 k3 k4 e0 e3 hz3 hz0 hi e10 e11 e12 A1 hbb
  intro i σ h2 hy
  rw [hJ] at hy
  obtain ⟨u2, m2, w0, w2, w4, w6, w8, e0, e3, e31, e32, e33, hi, st, nx, b2, A, hnb, q1, q3, q4, ad⟩ := hy
  have A1 := A.1
  have hbb := b2.B.1
  have hlen := ad.2
  have hz0 := st.ge.sz
  by_cases hlt : i < ga.l.length
  · obtain ⟨c, hc⟩ : ∃ c, ga.l[i]? = some c := ⟨ga.l[i], by simp [hlt]⟩
    obtain ⟨pb, po, hxa, hpb, hpu, hpz, hpr⟩ := (slg_isSl q3).row i c hc
    subst hxa
    rw [rep_atomG] at hpr
    obtain ⟨xv, hpr, rx⟩ := hpr
    obtain ⟨xa, xc, rfl⟩ := slg_sl rx
    simp only [sz_atomG, hvs_3, List.cons.injEq, and_true] at hpr hpu hpz
    obtain ⟨p0, p1, p2⟩ := hpr
    have s5 := Step.push0 S0 u2 h2 #[str c.1, .slice xa c.2.1.l.length xc, .int .i64 c.2.2] 60
    have X := Blk.new (u := u2) (h := h2) [str c.1, .slice xa c.2.1.l.length xc, .int .i64 c.2.2] 60
    obtain ⟨h5, hh5⟩ : ∃ h5, h5 = h2.push (.cells #[str c.1, .slice xa c.2.1.l.length xc, .int .i64 c.2.2] 60) := ⟨_, rfl⟩
    obtain ⟨u5, hu5⟩ : ∃ u5, u5 = ub u2 h2.size 0 := ⟨_, rfl⟩
    have X : Blk u5 h5 h2.size [str c.1, .slice xa c.2.1.l.length xc, .int .i64 c.2.2] := by rw [hu5, hh5]; exact X
    rw [← hh5, ← hu5] at s5
    have X1 := X.1
    simp (disch := first | omega | (simp only [e_ssz, e_psz, e_hszs, List.length_cons, List.length_nil]; try omega; done)) only [↓reduceIte, go_sem, owAdd_L2, e0, e31, e32, e33, hlt, p0, p1, p2, ← hh5, X.at, X.2.1]
    clear hh5 hu5
    refine effS_call (.inl ⟨rfl, u5, bb, m2, w0, w2, w4, w6, w8, _, c.2.1, rfl, b2.step0 s5, Rep.mono s5.ge rx, by omega, fun u6 h6 m6 z0 z2 z4 z6 z8 s6 n6 b6 ad6 => ⟨by simp (disch := first | omega | (simp only [e_ssz, e_psz, e_hszs, List.length_cons, List.length_nil]; try omega; done)) only [go_sem], ?_⟩⟩)
    simp (disch := first | omega | (simp only [e_ssz, e_psz, e_hszs, List.length_cons, List.length_nil]; try omega; done)) only [↓reduceIte, go_sem, e33]
    have z25 := s5.ge.sz
    have s57 : Step (BkB bb w0 w2 w4 w6 w8) u2 h2 u6 h6 := (s5.mono (fun _ _ q => q.elim)).trans s6 (fun j _ q => q)
    have n57 : Nx bb w0 w2 w4 w6 w8 h2 z0 z2 z4 z6 z8 := fun j q => (n6 j q).imp id (fun q => by omega)
    refine ⟨i + 1, ?_, by omega⟩
    rw [hJ]
    refine ⟨u6, m6, _, _, _, _, _, by simp [upd, e0], by simp [upd, e3], by simp [upd, e31], by simp [upd, e32], by simp [upd], hlt, Nx.step st nx s57, nx.trans n57 hz0, b6, A.step s57 hnb, fun q => (n57 _ q).elim hnb (fun q => by omega), Rep.mono s57.ge q1, Rep.mono s57.ge q3, Rep.mono s57.ge q4, ?_⟩
    have e : (ga.l.take (i + 1)).flatMap tags = (ga.l.take i).flatMap tags ++ tags c.2.1 := by
      rw [List.take_add_one, hc, List.flatMap_append, ← tags_at]; simp
    rw [e, ← List.append_assoc]
    exact (ad.trans ad6).le (fun _ => Nat.le_refl _) (by omega)
  obtain rfl : i = ga.l.length := by omega
  rw [List.take_length] at ad
  clear hJ
  -- the lists themselves
  have hB := b2.B
  unfold bkE at hB
  have sP := Step.push0 S0 u2 h2 #[.slice a1 gp.l.length c1] 22
  have hP := hB.step0 sP
  have hP1 := hP.1
  have hml : m2.c.length ≤ 1000000000 ∧ m2.t.length ≤ 1000000000 ∧ m2.k.length ≤ 1000000000 := by unfold BkM.len at hlen hl; omega
  obtain ⟨y0, z0, hv0, -, -⟩ := b2.o4.sl
  have o0 := b2.o4
  rw [hv0] at hB hP
  simp (disch := first | omega | (simp only [e_ssz, e_psz, e_hszs, List.length_cons, List.length_nil]; try omega; done)) only [↓reduceIte, go_sem, owAdd_L2, e0, e3, e32, e33, A.at, A.2.1, hB.at, hB.2.1, hP.at, hP.2.1]
  rw [← hv0]
  refine effS_app1q rfl o0 (x := gp) q1 rfl rfl (by omega) (by omega) fun a8 n8 c8 u8 h8 o8 s8 hO8 => ⟨by simp (disch := first | omega | (simp only [e_ssz, e_psz, e_hszs, List.length_cons, List.length_nil]; try omega; done)) only [go_sem], ?_⟩
  obtain ⟨b9, s9, n9⟩ := b2.put4 s8 o8 hO8
  have zz1 : hsz h8 bb = 10 := by rw [(s8.ge.hs bb hbb).1, hB.2.1]; rfl
  have zz2 : hfr h8 bb = (0, 0) := by rw [(s8.ge.hs bb hbb).2, hB.2.2.1]
  obtain ⟨h9, hh9⟩ : ∃ h9, h9 = hset h8 bb 4 (.slice a8 n8 c8) := ⟨_, rfl⟩
  rw [← hh9] at b9 s9
  have A9 := A.step s9 hnb
  have A91 := A9.1
  have hB9 := b9.B
  unfold bkE at hB9
  have hB91 := hB9.1
  have sP9 := Step.push0 S0 u8 h9 #[.slice a3 ga.l.length c3] 29
  have hP9 := hB9.step0 sP9
  have hP91 := hP9.1
  obtain ⟨y1, z1, hv1, -, -⟩ := b9.o6.sl
  have o9 := b9.o6
  rw [hv1] at hB9 hP9
  simp (disch := first | omega | (simp only [e_ssz, e_psz, e_hszs, List.length_cons, List.length_nil]; try omega; done)) only [↓reduceIte, go_sem, zz1, zz2, ← hh9, e0, e3, A9.at, A9.2.1, hB9.at, hB9.2.1, hP9.at, hP9.2.1]
  rw [← hv1]
  refine effS_app1q rfl o9 (x := ga) (Rep.mono s9.ge q3) rfl rfl (by have := s9.ge.sz; omega) (show (m2.t.length + 1) * 24 ≤ 140737488355328 by omega) fun aa na ca ua ha oa sa hOa => ⟨by simp (disch := first | omega | (simp only [e_ssz, e_psz, e_hszs, List.length_cons, List.length_nil]; try omega; done)) only [go_sem], ?_⟩
  obtain ⟨bB, sB, nB⟩ := b9.put6 sa oa hOa
  have zz3 : hsz ha bb = 10 := by rw [(sa.ge.hs bb hB91).1, hB9.2.1]; rfl
  have zz4 : hfr ha bb = (0, 0) := by rw [(sa.ge.hs bb hB91).2, hB9.2.2.1]
  obtain ⟨hb, hhb⟩ : ∃ hb, hb = hset ha bb 6 (.slice aa na ca) := ⟨_, rfl⟩
  rw [← hhb] at bB sB
  have s9B := Nx.step s9 n9 sB
  have n9B := n9.trans nB s9.ge.sz
  have AB := A9.step sB (fun q => (n9 _ q).elim hnb (fun q => by omega))
  have AB1 := AB.1
  have hBB := bB.B
  unfold bkE at hBB
  have hBB1 := hBB.1
  have sPB := Step.push0 S0 ua hb #[.slice a4 go.l.length c4] 30
  have hPB := hBB.step0 sPB
  have hPB1 := hPB.1
  obtain ⟨y2, z2, hv2, -, -⟩ := bB.o8.sl
  have oB := bB.o8
  rw [hv2] at hBB hPB
  simp (disch := first | omega | (simp only [e_ssz, e_psz, e_hszs, List.length_cons, List.length_nil]; try omega; done)) only [↓reduceIte, go_sem, zz3, zz4, ← hhb, e0, e3, AB.at, AB.2.1, hBB.at, hBB.2.1, hPB.at, hPB.2.1]
  rw [← hv2]
  refine effS_app1q rfl oB (x := go) (Rep.mono s9B.ge q4) rfl rfl (by have := s9B.ge.sz; omega) (show (m2.k.length + 1) * 24 ≤ 140737488355328 by omega) fun ac nc cc uc hc' oc sc hOc => ⟨by simp (disch := first | omega | (simp only [e_ssz, e_psz, e_hszs, List.length_cons, List.length_nil]; try omega; done)) only [go_sem], ?_⟩
  obtain ⟨bC, sC, nC⟩ := bB.put8 sc oc hOc
  have zz5 : hsz hc' bb = 10 := by rw [(sc.ge.hs bb hBB1).1, hBB.2.1]; rfl
  have zz6 : hfr hc' bb = (0, 0) := by rw [(sc.ge.hs bb hBB1).2, hBB.2.2.1]
  simp (disch := first | omega | (simp only [e_ssz, e_psz, e_hszs, List.length_cons, List.length_nil]; try omega; done)) only [↓reduceIte, go_sem, zz5, zz6, e0]
  refine hK _ _ _ _ _ _ _ _ (Nx.step st nx (Nx.step s9B n9B sC)) (nx.trans (n9B.trans nC s9B.ge.sz) hz0) bC ((((ad.trans (Ad.put4 m2 gp)).trans (Ad.put6 _ ga)).trans (Ad.put8 _ go)).le (fun n => ?_) (by omega))
  show List.count n (((((gp.l.flatMap tags ++ tags gq) ++ ga.l.flatMap tags) ++ gp.t.toList) ++ ga.t.toList) ++ go.t.toList) ≤ List.count n ((gp.l.flatMap tags ++ gp.t.toList) ++ (tags gq ++ ((ga.l.flatMap tags ++ ga.t.toList) ++ (go.l.flatMap tags ++ go.t.toList))))
  simp only [List.count_append]
  omega
end Go.Proofs.YtlenjlidahnklaaDoor
