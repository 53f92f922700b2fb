/- ParseOwn: deep. -/
import Derived.Test.YtlenjlidahnklaaDoorPwE
namespace Go.Ev
open Go Rep Edict HasTags
theorem Tg.swap {lo hi : Nat} {l m : List Nat} (t : Tg lo hi (l ++ m)) : Tg lo hi (m ++ l) := by
  refine ⟨fun n => ?_, fun n h => ?_⟩
  · have := t.1 n
    rw [List.count_append] at this ⊢
    omega
  · have := t.2 n
    rw [List.count_append] at this h
    exact this (by omega)
theorem ownb_nil {b n c : Nat} : ¬ OwnB (.slice none n c) b := by rintro ⟨o, n', c', e⟩; cases e
theorem slg_rep {α : Type} [Rep α] {u : U} {h : H} {g : SlG α} {v : Value} (r : rep u h g [v]) : IsSl u h v g.l ∧ Room (sz α) h v g.l.length g.t ∧ g.l.length ≤ 5000 := by
  obtain ⟨_, e, i, j, k⟩ := r
  cases e; exact ⟨i, j, k⟩
end Go.Ev
namespace Go.Proofs.YtlenjlidahnklaaDoor
open Go Go.Ev Edict HasTags
theorem mlenW : maxLen = 9223372036854775807 := rfl
def C_deepAtom (vs : List Value) (h : H) (K : Value → H → Prop) : Prop := ∃ (u : U) (a : AtomT) (v : Value), vs = [.agg #[str a.1, v, .int .i64 a.2.2]] ∧ IsSl u h v a.2.1 ∧ a.2.1.length ≤ 5000 ∧
  ∀ u' h' w, Step S0 u h u' h' → Own h.size u' h' w a.2.1 → K (.agg #[str a.1, w, .int .i64 a.2.2]) h'
theorem owDeepAtom_ok {vs : List Value} {h : H} {K : Value → H → Prop} {KP : List PanicEntry → H → Prop} (hC : C_deepAtom vs h K) : HCX Tryd.prog 16 vs h K KP := by
  obtain ⟨u, a, v, rfl, hv, hl, hK⟩ := hC
  obtain ⟨va, vc, rfl, -, -⟩ := hv.sl
  refine owDeepAtom_H (fun _ _ _ _ _ => False) (fun _ _ _ _ _ h => h.elim) _ ?_
  obtain ⟨u1, s1, A, B⟩ := two_new (u := u) (h := h) [str a.1, .slice va a.2.1.length vc, .int .i64 a.2.2] [str [], .slice none 0 0, .int .i64 0] 60 60
  obtain ⟨h1, hh1⟩ : ∃ h1, h1 = (h.push (.cells #[str a.1, .slice va a.2.1.length vc, .int .i64 a.2.2] 60)).push (.cells #[str [], .slice none 0 0, .int .i64 0] 60) := ⟨_, rfl⟩
  rw [← hh1] at s1 A B
  have z1 : h1.size = h.size + 1 + 1 := by rw [hh1]; simp
  obtain ⟨b1, hb1⟩ : ∃ b, b = h.size := ⟨_, rfl⟩
  obtain ⟨b2, hb2⟩ : ∃ b, b = b1 + 1 := ⟨_, rfl⟩
  rw [← hb1] at A
  rw [← hb1, ← hb2] at B
  have A1 := A.1
  have hv1 := hv.mono s1.ge
  simp (disch := first | omega | (simp only [e_ssz, e_psz, e_hszs, List.length_cons, List.length_nil]; try omega; done)) only [↓reduceIte, go_sem, owDeepAtom_S, owDeepAtom_E, ← hh1, ← hb1, ← hb2, A.at, A.2.1]
  clear hh1
  refine effS_app (k := h1.size) (Own.nil h1.size u1 h1) hv1 rfl rfl (Nat.le_refl _) (by simp only [List.length_nil]; omega) fun a7 n7 c7 u7 h7 o7 s7 => ⟨by simp (disch := first | omega | (simp only [e_ssz, e_psz, e_hszs, List.length_cons, List.length_nil]; try omega; done)) only [go_sem], ?_⟩
  rw [List.nil_append] at o7
  have A7 := A.step s7 ownb_nil
  have B7 := B.step s7 ownb_nil
  have A71 := A7.1
  obtain ⟨_, _, hme, -, -⟩ := o7.sl
  simp only [Value.slice.injEq] at hme
  obtain ⟨rfl, rfl, rfl⟩ := hme
  have A8 := A7.set (i := 1) (v := .slice a7 a.2.1.length c7) (by simp)
  have s8 := A7.stepSet (i := 1) (v := .slice a7 a.2.1.length c7)
  obtain ⟨h8, hh8⟩ : ∃ h8, h8 = hset h7 b1 1 (.slice a7 a.2.1.length c7) := ⟨_, rfl⟩
  rw [← hh8] at A8 s8
  simp only [List.set_cons_zero, List.set_cons_succ] at A8
  have A81 := A8.1
  have B8 := B7.step s8 (by omega)
  have W := B8.sets (l := [str a.1, .slice a7 a.2.1.length c7, .int .i64 a.2.2]) rfl
  have s9 := B8.stepSets (o := 0) (l := [str a.1, .slice a7 a.2.1.length c7, .int .i64 a.2.2]) (by simp)
  have o9 := (o7.step s8 (fun b q e => by have := o7.ge q; have e : b = b1 := e; omega)).step s9 (fun b q e => by have := o7.ge q; have e : b = b2 := e; omega)
  have st := ((s1.own s7 (fun j q => (ownb_nil q).elim)).own s8 (fun j e => by have e : j = b1 := e; omega)).own s9 (fun j e => by have e : j = b2 := e; omega)
  simp (disch := first | omega | (simp only [e_ssz, e_psz, e_hszs, List.length_cons, List.length_nil]; try omega; done)) only [↓reduceIte, go_sem, A7.2.1, A7.2.2.1, ← hh8, A8.at, A8.2.1, B8.2.1, B8.2.2.1, W.at, W.2.1]
  exact hK _ _ _ st (o9.mono (by omega))
def C_deepBody (vs : List Value) (h : H) (K : Value → H → Prop) : Prop := ∃ (u : U) (v : Value) (l : List LitT), vs = [v] ∧ IsSl u h v l ∧ (∀ x ∈ l, x.2.1.2.1.length ≤ 5000) ∧ l.length ≤ 5000 ∧
  ∀ u' h' w (g : List LitG), Step S0 u h u' h' → OwnG h.size u' h' w g → g.map pL = l → K w h'
def G_deepBody : Ctr := fun f vs h K _ => f = 16 ∧ C_deepAtom vs h K
theorem G_deepBody_ok : GOk Tryd.prog G_deepBody := by
  rintro f vs h K KP ⟨rfl, hC⟩; exact owDeepAtom_ok hC
theorem owDeepBody_ok {vs : List Value} {h : H} {K : Value → H → Prop} {KP : List PanicEntry → H → Prop} (hC : C_deepBody vs h K) : HCX Tryd.prog 15 vs h K KP := by
  obtain ⟨u, v, l, rfl, hv, hx5, hl5, hK⟩ := hC
  obtain ⟨va, vc, rfl, -, -⟩ := hv.sl
  have hm := mlenW
  refine owDeepBody_H G_deepBody G_deepBody_ok _ ?_
  simp (disch := first | omega | (simp only [e_ssz, e_psz, e_hszs, List.length_cons, List.length_nil]; try omega; done)) only [↓reduceIte, go_sem, owDeepBody_S, owDeepBody_E]
  obtain ⟨I, hI⟩ : ∃ I : Nat → Env → H → Prop, I = fun i σ h' => ∃ (u' : U) (w : Value) (acc : List LitG), σ 6 = .slice va l.length vc ∧ σ 7 = .int .i64 (l.length : Nat) ∧ σ 8 = .int .i64 (i : Nat) ∧ σ 3 = w ∧ i ≤ l.length ∧ Step S0 u h u' h' ∧ OwnG h.size u' h' w acc ∧ acc.map pL = l.take i := ⟨_, rfl⟩
  refine wpS_loop I (fun j => l.length - j) 0 (by rw [hI]; exact ⟨u, _, [], by simp [upd], by simp [upd], by simp [upd], by simp [upd], Nat.zero_le _, .refl _ _ _, .nil _ _ _, rfl⟩) ?_
  intro i σ h1 hy
  rw [hI] at hy
  obtain ⟨u1, w, acc, e6, e7, e8, e3, hi, st, ow, hacc⟩ := hy
  have hal : acc.length = i := by have := congrArg List.length hacc; rw [List.length_map, List.length_take] at this; omega
  by_cases hlt : i < l.length
  · obtain ⟨x, hx⟩ : ∃ x, l[i]? = some x := ⟨l[i], by simp [hlt]⟩
    have h5 := hx5 x (List.mem_of_getElem? hx)
    obtain ⟨pb, po, rfl, hpb, hpu, hpz, hpr⟩ := (hv.mono st.ge).row i x hx
    rw [rep_lit] at hpr
    obtain ⟨xv, hpr, ixv⟩ := hpr
    obtain ⟨xa, xc, rfl, -, -⟩ := ixv.sl
    simp only [sz_lit, litE, hvs_14, List.cons.injEq, and_true] at hpr hpu hpz
    obtain ⟨p0, p1, p2, p3, p4, p5, p6, p7, p8, p9, p10, p11, p12, p13⟩ := hpr
    have s2 := Step.push0 S0 u1 h1 (litE x (.slice xa x.2.1.2.1.length xc)).toArray 74
    have X := Blk.new (u := u1) (h := h1) (litE x (.slice xa x.2.1.2.1.length xc)) 74
    obtain ⟨h2, hh2⟩ : ∃ h2, h2 = h1.push (.cells (litE x (.slice xa x.2.1.2.1.length xc)).toArray 74) := ⟨_, rfl⟩
    obtain ⟨u2, hu2⟩ : ∃ u2, u2 = ub u1 h1.size 0 := ⟨_, rfl⟩
    have X : Blk u2 h2 h1.size (litE x (.slice xa x.2.1.2.1.length xc)) := by rw [hu2, hh2]; exact X
    rw [← hh2, ← hu2] at s2
    have z2 : h2.size = h1.size + 1 := by rw [hh2]; simp
    simp only [litE] at X hh2
    obtain ⟨b, hb⟩ : ∃ b, b = h1.size := ⟨_, rfl⟩
    rw [← hb] at X
    have X1 := X.1
    simp (disch := first | omega | (simp only [e_ssz, e_psz, e_hszs, List.length_cons, List.length_nil]; try omega; done)) only [↓reduceIte, go_sem, owDeepBody_L1, e6, e7, e8, hlt, p0, p1, p2, p3, p4, p5, p6, p7, p8, p9, p10, p11, p12, p13, ← hh2, ← hb, X.at, X.2.1]
    clear hh2 hu2
    refine effS_call ⟨rfl, u2, x.2.1, _, rfl, ixv.mono s2.ge, h5, fun u3 h3 y s3 oy => ⟨by simp (disch := first | omega | (simp only [e_ssz, e_psz, e_hszs, List.length_cons, List.length_nil]; try omega; done)) only [go_sem], ?_⟩⟩
    obtain ⟨ya, yc, rfl, -, -⟩ := oy.sl
    have X3 := X.step0 s3
    have X31 := X3.1
    have X4 := X3.sets3 (o := 1) (x0 := str x.2.1.1) (x1 := .slice ya x.2.1.2.1.length yc) (x2 := .int .i64 x.2.1.2.2) (by simp)
    have s4 := X3.stepSets (o := 1) (l := [str x.2.1.1, .slice ya x.2.1.2.1.length yc, .int .i64 x.2.1.2.2]) (by simp)
    obtain ⟨h4, hh4⟩ : ∃ h4, h4 = hsets h3 b 1 [str x.2.1.1, .slice ya x.2.1.2.1.length yc, .int .i64 x.2.1.2.2] := ⟨_, rfl⟩
    rw [← hh4] at X4 s4
    simp only [Nat.reduceAdd, List.set_cons_zero, List.set_cons_succ] at X4
    have X41 := X4.1
    have oy4 := oy.step s4 (fun j q e => by have := oy.ge q; have e : j = b := e; omega)
    have ow4 := ((ow.step0 s2).step0 s3).step s4 (fun j q e => by have := ow.own.lt q; have e : j = b := e; omega)
    have st4 := ((st.trans0 s2).trans0 s3).own s4 (fun j e => by have e : j = b := e; have := st.ge.sz; omega)
    obtain ⟨ga, hga, rga, tga⟩ := (oy4.toG tags_term h5).box
    obtain ⟨g, hg⟩ : ∃ g : LitG, g = (x.1, (x.2.1.1, ga, x.2.1.2.2), x.2.2.1, x.2.2.2.1, x.2.2.2.2.1, x.2.2.2.2.2) := ⟨_, rfl⟩
    have hpg : pL g = x := by rw [hg]; unfold pL pA; simp only; rw [hga]
    have hrep : Rep.rep u3 h4 g (litE x (.slice ya x.2.1.2.1.length yc)) := by rw [rep_litG, hpg]; exact ⟨_, rfl, by rw [hg]; exact rga⟩
    have z0 := st.ge.sz
    have z3 := s3.ge.sz
    have z4 := s4.ge.sz
    have htg : Tg h1.size h4.size (tags g) := by rw [tags_li, hg]; exact tga.mono (by omega) (Nat.le_refl _)
    simp only [litE] at hrep
    simp (disch := first | omega | (simp only [e_ssz, e_psz, e_hszs, List.length_cons, List.length_nil]; try omega; done)) only [↓reduceIte, go_sem, X3.2.1, X3.2.2.1, ← hh4, X4.at, X4.2.1, e3]
    refine effS_app1g rfl ow4 (x := g) ow.tg htg z0 (by omega) hrep rfl rfl (by omega) (by omega) fun a5 n5 c5 u5 h5 o5 s5 hO5 => ⟨by simp (disch := first | omega | (simp only [e_ssz, e_psz, e_hszs, List.length_cons, List.length_nil]; try omega; done)) only [go_sem], ?_⟩
    simp (disch := first | omega | (simp only [e_ssz, e_psz, e_hszs, List.length_cons, List.length_nil]; try omega; done)) only [↓reduceIte, go_sem, e8]
    refine ⟨i + 1, ?_, by omega⟩
    rw [hI]
    refine ⟨u5, _, acc ++ [g], by simp [upd, e6], by simp [upd, e7], by simp [upd], by simp [upd], hlt, st4.own s5 (fun j q => ow4.ge q), o5, ?_⟩
    rw [List.map_append, hacc, List.map_cons, hpg, List.take_add_one, hx]; rfl
  · obtain rfl : i = l.length := by omega
    rw [List.take_length] at hacc
    simp (disch := first | omega | (simp only [e_ssz, e_psz, e_hszs, List.length_cons, List.length_nil]; try omega; done)) only [↓reduceIte, go_sem, owDeepBody_L1, e7, e8, e3]
    exact hK _ _ _ acc st ow hacc
end Go.Proofs.YtlenjlidahnklaaDoor
