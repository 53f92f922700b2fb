/- ParseOwn: asked, same. -/
import Derived.Test.YtlenjlidahnklaaDoorPwD
import Derived.Test.YtlenjlidahnklaaDoorPwY
import Derived.Test.YtlenjlidahnklaaDoorPwS
namespace Go.Ev
open Go Rep Edict HasTags
theorem Step.own {S : Nat → Prop} {u u1 u2 : U} {h h1 h2 : H} (s : Step S0 u h u1 h1) (t : Step S u1 h1 u2 h2) (hn : ∀ j, S j → h.size ≤ j) : Step S0 u h u2 h2 := s.trans t (fun j hj e => absurd (hn j e) (by omega))
theorem Blk.stepSet {u : U} {h : H} {b i : Nat} {cs : List Value} {v : Value} (B : Blk u h b cs) : Step (fun j => j = b) u h u (hset h b i v) := Step.set u h _ rfl (by rw [B.2.2.2.1]; exact Nat.zero_le _)
theorem Blk.stepSets {u : U} {h : H} {b o : Nat} {cs l : List Value} (B : Blk u h b cs) (hl : o + l.length ≤ cs.length) : Step (fun j => j = b) u h u (hsets h b o l) := Step.sets u h _ rfl (by rw [B.2.2.2.1]; exact Nat.zero_le _) (by rw [B.2.1]; exact hl)
theorem Blk.sets2 {u : U} {h : H} {b : Nat} {cs : List Value} {o : Nat} {x0 x1 : Value} (k : Blk u h b cs) (ho : o + 2 ≤ cs.length) : Blk u (hsets h b o [x0, x1]) b ((cs.set o x0).set (o + 1) x1) :=
  (k.set (i := o) (v := x0) (by omega)).set (i := o + 1) (v := x1) (by simp; omega)
theorem Blk.sets3 {u : U} {h : H} {b : Nat} {cs : List Value} {o : Nat} {x0 x1 x2 : Value} (k : Blk u h b cs) (ho : o + 3 ≤ cs.length) : Blk u (hsets h b o [x0, x1, x2]) b (((cs.set o x0).set (o + 1) x1).set (o + 2) x2) :=
  ((k.set (i := o) (v := x0) (by omega)).set (i := o + 1) (v := x1) (by simp; omega)).set (i := o + 2) (v := x2) (by simp; omega)
theorem slg_nil {α : Type} [Rep α] (u : U) (h : H) : rep u h (⟨[], none⟩ : SlG α) [.slice none 0 0] := ⟨_, rfl, .nil _ _, ⟨rfl, rfl⟩, Nat.zero_le _⟩
theorem slg_sl {α : Type} [Rep α] {u : U} {h : H} {g : SlG α} {v : Value} (r : rep u h g [v]) : ∃ a c, v = .slice a g.l.length c := by
  obtain ⟨a, c, e, -⟩ := (slg_isSl r).sl
  exact ⟨a, c, e⟩
def ansZ : List Value := [.slice none 0 0, .int .i64 0, .int .i64 0, .int .i64 0, .slice none 0 0, .slice none 0 0, str [], .slice none 0 0]
end Go.Ev
namespace Go.Proofs.YtlenjlidahnklaaDoor
open Go Go.Ev Edict HasTags
def C_aProg (vs : List Value) (h : H) (K : Value → H → Prop) : Prop := ∃ (u : U) (src : List UInt8), vs = [str src] ∧ src.length ≤ 9223372036854775807 ∧ LxG u h ∧
  ∀ u' h' w (g : SlG ClauseG), Step S0 u h u' h' → Rep.rep u' h' g [w] → Tg h.size h'.size (tags g) → g.l.map pC = (ansP src).1 → K (.tuple #[.agg #[w], fltV (ansP src).2]) h'
theorem aProg_ok {vs : List Value} {h : H} {K : Value → H → Prop} {KP : List PanicEntry → H → Prop} (hC : C_aProg vs h K) : HCX Tryd.prog 11 vs h K KP := by
  obtain ⟨u, src, rfl, hl, hG, hK⟩ := hC
  refine psProgram_ok ⟨u, src, rfl, hl, hG, fun e he u' h' s => ?_, fun a ha u' h' w s o => ?_⟩
  · have hr : ansP src = ([], e) := by unfold ansP; rw [he]
    rw [hr] at hK
    exact hK u' h' _ ⟨[], none⟩ s (slg_nil _ _) (Tg.nil _ _) rfl
  · have hr : ansP src = (a.map pC, (0, 0)) := by unfold ansP; rw [ha]
    rw [hr] at hK
    obtain ⟨g, hg, r, t⟩ := o.box
    exact hK u' h' _ g s r t (by rw [hg])
def C_aQry (vs : List Value) (h : H) (K : Value → H → Prop) : Prop := ∃ (u : U) (src : List UInt8), vs = [str src] ∧ src.length ≤ 9223372036854775807 ∧ LxG u h ∧
  ∀ u' h' w (g : SlG LitG) f, Step S0 u h u' h' → Rep.rep u' h' g [w] → Tg h.size h'.size (tags g) → g.l.map pL = ansQ src → K (.tuple #[w, fltV f]) h'
theorem aQry_ok {vs : List Value} {h : H} {K : Value → H → Prop} {KP : List PanicEntry → H → Prop} (hC : C_aQry vs h K) : HCX Tryd.prog 12 vs h K KP := by
  obtain ⟨u, src, rfl, hl, hG, hK⟩ := hC
  refine psQuery_ok ⟨u, src, rfl, hl, hG, fun e he u' h' s => ?_, fun a ha u' h' w s o => ?_⟩
  · have hr : ansQ src = [] := by unfold ansQ; rw [he]
    rw [hr] at hK
    exact hK u' h' _ ⟨[], none⟩ e s (slg_nil _ _) (Tg.nil _ _) rfl
  · have hr : ansQ src = a.map pL := by unfold ansQ; rw [ha]
    rw [hr] at hK
    obtain ⟨g, hg, r, t⟩ := o.box
    exact hK u' h' _ g (0, 0) s r t (by rw [hg])
def C_aFacs (vs : List Value) (h : H) (K : Value → H → Prop) : Prop := ∃ (u : U) (src : List UInt8), vs = [str src] ∧ src.length ≤ 9223372036854775807 ∧ LxG u h ∧
  ∀ u' h' w (g : SlG AtomG) f, Step S0 u h u' h' → Rep.rep u' h' g [w] → Tg h.size h'.size (tags g) → g.l.map pA = ansA src → K (.tuple #[w, fltV f]) h'
theorem aFacs_ok {vs : List Value} {h : H} {K : Value → H → Prop} {KP : List PanicEntry → H → Prop} (hC : C_aFacs vs h K) : HCX Tryd.prog 13 vs h K KP := by
  obtain ⟨u, src, rfl, hl, hG, hK⟩ := hC
  refine psFacts_ok ⟨u, src, rfl, hl, hG, fun e he u' h' s => ?_, fun a ha u' h' w s o => ?_⟩
  · have hr : ansA src = [] := by unfold ansA; rw [he]
    rw [hr] at hK
    exact hK u' h' _ ⟨[], none⟩ e s (slg_nil _ _) (Tg.nil _ _) rfl
  · have hr : ansA src = a.map pA := by unfold ansA; rw [ha]
    rw [hr] at hK
    obtain ⟨g, hg, r, t⟩ := o.box
    exact hK u' h' _ g (0, 0) s r t (by rw [hg])
def C_aOne (vs : List Value) (h : H) (K : Value → H → Prop) : Prop := ∃ (u : U) (src : List UInt8), vs = [str src] ∧ src.length ≤ 9223372036854775807 ∧ LxG u h ∧
  ∀ u' h' w (g : SlG ConstT) f, Step S0 u h u' h' → Rep.rep u' h' g [w] → Tg h.size h'.size (tags g) → g.l = (ansO src).2 → K (.tuple #[.agg #[str (ansO src).1, w], fltV f]) h'
theorem aOne_ok {vs : List Value} {h : H} {K : Value → H → Prop} {KP : List PanicEntry → H → Prop} (hC : C_aOne vs h K) : HCX Tryd.prog 14 vs h K KP := by
  obtain ⟨u, src, rfl, hl, hG, hK⟩ := hC
  refine psFact_ok ⟨u, src, rfl, hl, hG, fun e he u' h' s => ?_, fun a ha u' h' w s o => ?_⟩
  · have hr : ansO src = ([], []) := by unfold ansO; rw [he]
    rw [hr] at hK
    exact hK u' h' _ ⟨[], none⟩ e s (slg_nil _ _) (Tg.nil _ _) rfl
  · have hr : ansO src = (a.1, a.2.1.map constD) := by unfold ansO; rw [ha]
    rw [hr] at hK
    obtain ⟨g, hg, r, t⟩ := (o.toG tags_const (by rw [List.length_map]; have := oneD_le ha; omega)).box
    exact hK u' h' _ g (0, 0) s r t hg
def C_asked (vs : List Value) (h : H) (K : Value → H → Prop) : Prop := ∃ (u : U) (src other : List UInt8), vs = [str src, str other] ∧ src.length ≤ 9223372036854775807 ∧ other.length ≤ 9223372036854775807 ∧ LxG u h ∧
  ∀ u' h' (g : AnsG) v1 v2 v3 v4, Step S0 u h u' h' → Rep.rep u' h' g (ansE g.2.1 g.2.2.2.2.1 v1 v2 v3 v4) → Tg h.size h'.size (tags g) → pAns g = ansF src other → K (.agg (ansE g.2.1 g.2.2.2.2.1 v1 v2 v3 v4).toArray) h'
def G_asked : Ctr := fun f vs h K _ => (f = 11 ∧ C_aProg vs h K) ∨ (f = 12 ∧ C_aQry vs h K) ∨ (f = 13 ∧ C_aFacs vs h K) ∨ (f = 14 ∧ C_aOne vs h K)
theorem G_asked_ok : GOk Tryd.prog G_asked := by
  rintro f vs h K KP (⟨rfl, hC⟩ | ⟨rfl, hC⟩ | ⟨rfl, hC⟩ | ⟨rfl, hC⟩)
  · exact aProg_ok hC
  · exact aQry_ok hC
  · exact aFacs_ok hC
  · exact aOne_ok hC
theorem owAsked_ok {vs : List Value} {h : H} {K : Value → H → Prop} {KP : List PanicEntry → H → Prop} (hC : C_asked vs h K) : HCX Tryd.prog 4 vs h K KP := by
  obtain ⟨u, src, other, rfl, hl1, hl2, hG, hK⟩ := hC
  refine owAsked_H G_asked G_asked_ok _ _ ?_
  obtain ⟨u1, s1, B4, B5⟩ := two_new (u := u) (h := h) ansZ ansZ 34 34
  obtain ⟨h1, hh1⟩ : ∃ h1, h1 = (h.push (.cells ansZ.toArray 34)).push (.cells ansZ.toArray 34) := ⟨_, rfl⟩
  rw [← hh1] at s1 B4 B5
  have z1 : h1.size = h.size + 1 + 1 := by rw [hh1]; simp
  unfold ansZ at hh1 B4 B5
  obtain ⟨b4, hb4⟩ : ∃ b4, b4 = h.size := ⟨_, rfl⟩
  obtain ⟨b5, hb5⟩ : ∃ b5, b5 = b4 + 1 := ⟨_, rfl⟩
  simp (disch := first | omega | (simp only [e_ssz, e_psz, e_hszs, List.length_cons, List.length_nil]; try omega; done)) only [↓reduceIte, go_sem, owAsked_S, owAsked_E, ← hh1]
  rw [← hb4, ← hb5]
  rw [← hb4] at B4
  rw [← hb4, ← hb5] at B5
  clear hh1
  -- the program
  refine effS_call (.inl ⟨rfl, u1, src, rfl, hl1, hG.mono s1.ge, fun u2 h2 w2 g2 s2 r2 t2 e2 => ⟨by simp (disch := first | omega | (simp only [e_ssz, e_psz, e_hszs, List.length_cons, List.length_nil]; try omega; done)) only [go_sem], ?_⟩⟩)
  obtain ⟨a2, c2, rfl⟩ := slg_sl r2
  have B42 := B4.step0 s2
  have B52 := B5.step0 s2
  have b52 := B52.1
  obtain ⟨f, hf⟩ : ∃ f, f = (ansP src).2 := ⟨_, rfl⟩
  rw [← hf]
  have B53 := B52.set (i := 0) (v := .slice a2 g2.l.length c2) (by simp)
  have s3 := B52.stepSet (i := 0) (v := .slice a2 g2.l.length c2)
  obtain ⟨h3, hh3⟩ : ∃ h3, h3 = hset h2 b5 0 (.slice a2 g2.l.length c2) := ⟨_, rfl⟩
  rw [← hh3] at B53 s3
  simp only [List.set_cons_zero] at B53
  have b53 := B53.1
  have B54 := B53.sets3 (o := 1) (x0 := .int .i64 f.1) (x1 := .int .i64 0) (x2 := .int .i64 f.2) (by simp)
  have s4 := B53.stepSets (o := 1) (l := [.int .i64 f.1, .int .i64 0, .int .i64 f.2]) (by simp)
  obtain ⟨h4, hh4⟩ : ∃ h4, h4 = hsets h3 b5 1 [.int .i64 f.1, .int .i64 0, .int .i64 f.2] := ⟨_, rfl⟩
  rw [← hh4] at B54 s4
  simp only [Nat.reduceAdd, List.set_cons_zero, List.set_cons_succ] at B54
  have b54 := B54.1
  have hn : ∀ j, j = b5 → h.size ≤ j := fun j e => by omega
  have hn4 : ¬ b4 = b5 := by omega
  have B44 := (B42.step s3 hn4).step s4 hn4
  have st4 := ((s1.trans0 s2).own s3 hn).own s4 hn
  have r4 := Rep.mono s4.ge (Rep.mono s3.ge r2)
  simp only [fltV]
  simp (disch := first | omega | (simp only [e_ssz, e_psz, e_hszs, List.length_cons, List.length_nil]; try omega; done)) only [↓reduceIte, go_sem, B52.2.1, B52.2.2.1, ← hh3, B53.2.1, B53.2.2.1, ← hh4]
  -- the query
  refine effS_call (.inr (.inl ⟨rfl, u2, other, rfl, hl2, hG.mono st4.ge, fun u5 h5 w5 g5 f5 s5 r5 t5 e5 => ⟨by simp (disch := first | omega | (simp only [e_ssz, e_psz, e_hszs, List.length_cons, List.length_nil]; try omega; done)) only [go_sem], ?_⟩⟩))
  obtain ⟨a5, c5, rfl⟩ := slg_sl r5
  have B55 := B54.step0 s5
  have b55 := B55.1
  have B56 := B55.set (i := 4) (v := .slice a5 g5.l.length c5) (by simp)
  have s6 := B55.stepSet (i := 4) (v := .slice a5 g5.l.length c5)
  obtain ⟨h6, hh6⟩ : ∃ h6, h6 = hset h5 b5 4 (.slice a5 g5.l.length c5) := ⟨_, rfl⟩
  rw [← hh6] at B56 s6
  simp only [List.set_cons_zero, List.set_cons_succ] at B56
  have st6 := (st4.trans0 s5).own s6 hn
  have B46 := (B44.step0 s5).step s6 hn4
  have r46 := Rep.mono s6.ge (Rep.mono s5.ge r4)
  have r56 := Rep.mono s6.ge r5
  simp only [fltV]
  simp (disch := first | omega | (simp only [e_ssz, e_psz, e_hszs, List.length_cons, List.length_nil]; try omega; done)) only [↓reduceIte, go_sem, B55.2.1, B55.2.2.1, ← hh6]
  -- the facts
  refine effS_call (.inr (.inr (.inl ⟨rfl, u5, other, rfl, hl2, hG.mono st6.ge, fun u7 h7 w7 g7 f7 s7 r7 t7 e7 => ⟨by simp (disch := first | omega | (simp only [e_ssz, e_psz, e_hszs, List.length_cons, List.length_nil]; try omega; done)) only [go_sem], ?_⟩⟩)))
  obtain ⟨a7, c7, rfl⟩ := slg_sl r7
  have B57 := B56.step0 s7
  have b57 := B57.1
  have B58 := B57.set (i := 5) (v := .slice a7 g7.l.length c7) (by simp)
  have s8 := B57.stepSet (i := 5) (v := .slice a7 g7.l.length c7)
  obtain ⟨h8, hh8⟩ : ∃ h8, h8 = hset h7 b5 5 (.slice a7 g7.l.length c7) := ⟨_, rfl⟩
  rw [← hh8] at B58 s8
  simp only [List.set_cons_zero, List.set_cons_succ] at B58
  have st8 := (st6.trans0 s7).own s8 hn
  have B48 := (B46.step0 s7).step s8 hn4
  have r48 := Rep.mono s8.ge (Rep.mono s7.ge r46)
  have r58 := Rep.mono s8.ge (Rep.mono s7.ge r56)
  have r78 := Rep.mono s8.ge r7
  simp only [fltV]
  simp (disch := first | omega | (simp only [e_ssz, e_psz, e_hszs, List.length_cons, List.length_nil]; try omega; done)) only [↓reduceIte, go_sem, B57.2.1, B57.2.2.1, ← hh8]
  -- the fact
  refine effS_call (.inr (.inr (.inr ⟨rfl, u7, other, rfl, hl2, hG.mono st8.ge, fun u9 h9 w9 g9 f9 s9 r9 t9 e9 => ⟨by simp (disch := first | omega | (simp only [e_ssz, e_psz, e_hszs, List.length_cons, List.length_nil]; try omega; done)) only [go_sem], ?_⟩⟩)))
  obtain ⟨a9, c9, rfl⟩ := slg_sl r9
  have B59 := B58.step0 s9
  have b59 := B59.1
  obtain ⟨pn, hpn⟩ : ∃ pn, pn = (ansO other).1 := ⟨_, rfl⟩
  rw [← hpn]
  have B5a := B59.sets2 (o := 6) (x0 := str pn) (x1 := .slice a9 g9.l.length c9) (by simp)
  have sa := B59.stepSets (o := 6) (l := [str pn, .slice a9 g9.l.length c9]) (by simp)
  obtain ⟨ha, hha⟩ : ∃ ha, ha = hsets h9 b5 6 [str pn, .slice a9 g9.l.length c9] := ⟨_, rfl⟩
  rw [← hha] at B5a sa
  simp only [Nat.reduceAdd, List.set_cons_zero, List.set_cons_succ] at B5a
  have b5a := B5a.1
  have sta := (st8.trans0 s9).own sa hn
  have B4a := (B48.step0 s9).step sa hn4
  have b4a := B4a.1
  have r4a := Rep.mono sa.ge (Rep.mono s9.ge r48)
  have r5a := Rep.mono sa.ge (Rep.mono s9.ge r58)
  have r7a := Rep.mono sa.ge (Rep.mono s9.ge r78)
  have r9a := Rep.mono sa.ge r9
  have W := B4a.sets (l := [.slice a2 g2.l.length c2, .int .i64 f.1, .int .i64 0, .int .i64 f.2, .slice a5 g5.l.length c5, .slice a7 g7.l.length c7, str pn, .slice a9 g9.l.length c9]) rfl
  have sb := B4a.stepSets (o := 0) (l := [.slice a2 g2.l.length c2, .int .i64 f.1, .int .i64 0, .int .i64 f.2, .slice a5 g5.l.length c5, .slice a7 g7.l.length c7, str pn, .slice a9 g9.l.length c9]) (by simp)
  obtain ⟨hb, hhb⟩ : ∃ hb, hb = hsets ha b4 0 [.slice a2 g2.l.length c2, .int .i64 f.1, .int .i64 0, .int .i64 f.2, .slice a5 g5.l.length c5, .slice a7 g7.l.length c7, str pn, .slice a9 g9.l.length c9] := ⟨_, rfl⟩
  rw [← hhb] at W sb
  have stb := sta.own sb (fun j e => by have e : j = b4 := e; omega)
  have w1 := W.1
  have z2 := s2.ge.sz
  have z3 := s3.ge.sz
  have z4 := s4.ge.sz
  have z5 := s5.ge.sz
  have z6 := s6.ge.sz
  have z7 := s7.ge.sz
  have z8 := s8.ge.sz
  have z9 := s9.ge.sz
  have za := sa.ge.sz
  have zb := sb.ge.sz
  obtain ⟨g, hg⟩ : ∃ g : AnsG, g = (g2, (f.1, 0, f.2), g5, g7, pn, g9) := ⟨_, rfl⟩
  have hK' := hK u9 hb g (.slice a2 g2.l.length c2) (.slice a5 g5.l.length c5) (.slice a7 g7.l.length c7) (.slice a9 g9.l.length c9) stb (by
    rw [rep_ansG, hg]
    exact ⟨_, _, _, _, rfl, Rep.mono sb.ge r4a, Rep.mono sb.ge r5a, Rep.mono sb.ge r7a, Rep.mono sb.ge r9a⟩) (by
    rw [tags_ans, hg]
    exact (t2.mono (lo' := h.size) (hi' := h2.size) (by omega) (Nat.le_refl _)).app ((t5.mono (lo' := h2.size) (by omega) (Nat.le_refl _)).app ((t7.mono (lo' := h5.size) (by omega) (Nat.le_refl _)).app (t9.mono (lo' := h7.size) (hi' := hb.size) (by omega) (by omega)) (by omega) (by omega)) (by omega) (by omega)) (by omega) (by omega)) (by
    rw [hg]
    unfold pAns ansF
    simp only
    rw [e2, e5, e7, e9, hpn, hf])
  rw [hg] at hK'
  simp only [ansE] at hK'
  simp only [fltV]
  simp (disch := first | omega | (simp only [e_ssz, e_psz, e_hszs, List.length_cons, List.length_nil]; try omega; done)) only [↓reduceIte, go_sem, B59.2.1, B59.2.2.1, ← hha, B5a.at, B5a.2.1, B4a.2.1, B4a.2.2.1, ← hhb, W.at, W.2.1]
  exact hK'
def C_same (vs : List Value) (h : H) (K : Value → H → Prop) : Prop := ∃ (u : U) (a : AnsT) (v1 v2 v3 v4 w1 w2 w3 w4 : Value), vs = [.agg (ansE a.2.1 a.2.2.2.2.1 v1 v2 v3 v4).toArray, .agg (ansE a.2.1 a.2.2.2.2.1 w1 w2 w3 w4).toArray] ∧ Rep.rep u h a (ansE a.2.1 a.2.2.2.2.1 v1 v2 v3 v4) ∧ Rep.rep u h a (ansE a.2.1 a.2.2.2.2.1 w1 w2 w3 w4) ∧ ∀ u' h', Step S0 u h u' h' → K (.bool true) h'
def G_same : Ctr := fun f vs h K _ => (f = 17 ∧ C_sClauses vs h K) ∨ (f = 18 ∧ C_sBody vs h K) ∨ (f = 19 ∧ C_sAtoms vs h K) ∨ (f = 20 ∧ C_sFact vs h K)
theorem G_same_ok : GOk Tryd.prog G_same := by
  rintro f vs h K KP (⟨rfl, hC⟩ | ⟨rfl, hC⟩ | ⟨rfl, hC⟩ | ⟨rfl, hC⟩)
  · exact plSameClauses_ok hC
  · exact plSameBody_ok hC
  · exact plSameAtoms_ok hC
  · exact plSameFact_ok hC
theorem rep_ans_sl {u : U} {h : H} {a : AnsT} {f : Int × Int × Int} {s : List UInt8} {v1 v2 v3 v4 : Value} (r : Rep.rep u h a (ansE f s v1 v2 v3 v4)) : IsSl u h v1 a.1 ∧ IsSl u h v2 a.2.2.1 ∧ IsSl u h v3 a.2.2.2.1 ∧ IsSl u h v4 a.2.2.2.2.2 := by
  rw [rep_ans] at r
  obtain ⟨w1, w2, w3, w4, e, i1, i2, i3, i4⟩ := r
  simp only [ansE, List.cons.injEq, and_true] at e
  obtain ⟨rfl, -, -, -, rfl, rfl, -, rfl⟩ := e
  exact ⟨i1, i2, i3, i4⟩
theorem owSame_ok {vs : List Value} {h : H} {K : Value → H → Prop} {KP : List PanicEntry → H → Prop} (hC : C_same vs h K) : HCX Tryd.prog 6 vs h K KP := by
  obtain ⟨u, a, v1, v2, v3, v4, w1, w2, w3, w4, rfl, rv, rw', hK⟩ := hC
  obtain ⟨i1, i2, i3, i4⟩ := rep_ans_sl rv
  obtain ⟨j1, j2, j3, j4⟩ := rep_ans_sl rw'
  obtain ⟨a1, c1, rfl, -, -⟩ := i1.sl
  obtain ⟨a2, c2, rfl, -, -⟩ := i2.sl
  obtain ⟨a3, c3, rfl, -, -⟩ := i3.sl
  obtain ⟨a4, c4, rfl, -, -⟩ := i4.sl
  obtain ⟨x1, y1, rfl, -, -⟩ := j1.sl
  obtain ⟨x2, y2, rfl, -, -⟩ := j2.sl
  obtain ⟨x3, y3, rfl, -, -⟩ := j3.sl
  obtain ⟨x4, y4, rfl, -, -⟩ := j4.sl
  refine owSame_H G_same G_same_ok _ _ ?_
  obtain ⟨u1, s1, A, B⟩ := two_new (u := u) (h := h) (ansE a.2.1 a.2.2.2.2.1 (.slice a1 a.1.length c1) (.slice a2 a.2.2.1.length c2) (.slice a3 a.2.2.2.1.length c3) (.slice a4 a.2.2.2.2.2.length c4)) (ansE a.2.1 a.2.2.2.2.1 (.slice x1 a.1.length y1) (.slice x2 a.2.2.1.length y2) (.slice x3 a.2.2.2.1.length y3) (.slice x4 a.2.2.2.2.2.length y4)) 34 34
  obtain ⟨h1, hh1⟩ : ∃ h1, h1 = (h.push (.cells (ansE a.2.1 a.2.2.2.2.1 (.slice a1 a.1.length c1) (.slice a2 a.2.2.1.length c2) (.slice a3 a.2.2.2.1.length c3) (.slice a4 a.2.2.2.2.2.length c4)).toArray 34)).push (.cells (ansE a.2.1 a.2.2.2.2.1 (.slice x1 a.1.length y1) (.slice x2 a.2.2.1.length y2) (.slice x3 a.2.2.2.1.length y3) (.slice x4 a.2.2.2.2.2.length y4)).toArray 34) := ⟨_, rfl⟩
  rw [← hh1] at s1 A B
  unfold ansE at hh1 A B ⊢
  have A1 := A.1
  have B1 := B.1
  have i1 := i1.mono s1.ge
  have i2 := i2.mono s1.ge
  have i3 := i3.mono s1.ge
  have i4 := i4.mono s1.ge
  have j1 := j1.mono s1.ge
  have j2 := j2.mono s1.ge
  have j3 := j3.mono s1.ge
  have j4 := j4.mono s1.ge
  simp (disch := first | omega | (simp only [e_ssz, e_psz, e_hszs, List.length_cons, List.length_nil]; try omega; done)) only [↓reduceIte, go_sem, owSame_S, owSame_E, ← hh1, A.at, A.2.1, B.at, B.2.1]
  clear hh1
  refine effS_call (.inl ⟨rfl, u1, _, _, a.1, rfl, i1, j1, fun u2 h2 s2 => ⟨by simp (disch := first | omega | (simp only [e_ssz, e_psz, e_hszs, List.length_cons, List.length_nil]; try omega; done)) only [go_sem], ?_⟩⟩)
  have A2 := A.step0 s2
  have B2 := B.step0 s2
  have A21 := A2.1
  have B21 := B2.1
  simp (disch := first | omega | (simp only [e_ssz, e_psz, e_hszs, List.length_cons, List.length_nil]; try omega; done)) only [↓reduceIte, go_sem, A2.at, A2.2.1, B2.at, B2.2.1]
  refine effS_call (.inr (.inl ⟨rfl, u2, _, _, a.2.2.1, rfl, i2.mono s2.ge, j2.mono s2.ge, fun u3 h3 s3 => ⟨by simp (disch := first | omega | (simp only [e_ssz, e_psz, e_hszs, List.length_cons, List.length_nil]; try omega; done)) only [go_sem], ?_⟩⟩))
  have A3 := A2.step0 s3
  have B3 := B2.step0 s3
  have A31 := A3.1
  have B31 := B3.1
  have s13 := s2.trans0 s3
  simp (disch := first | omega | (simp only [e_ssz, e_psz, e_hszs, List.length_cons, List.length_nil]; try omega; done)) only [↓reduceIte, go_sem, A3.at, A3.2.1, B3.at, B3.2.1]
  refine effS_call (.inr (.inr (.inl ⟨rfl, u3, _, _, a.2.2.2.1, rfl, i3.mono s13.ge, j3.mono s13.ge, fun u4 h4 s4 => ⟨by simp (disch := first | omega | (simp only [e_ssz, e_psz, e_hszs, List.length_cons, List.length_nil]; try omega; done)) only [go_sem], ?_⟩⟩)))
  have A4 := A3.step0 s4
  have B4 := B3.step0 s4
  have A41 := A4.1
  have B41 := B4.1
  have s14 := s13.trans0 s4
  simp (disch := first | omega | (simp only [e_ssz, e_psz, e_hszs, List.length_cons, List.length_nil]; try omega; done)) only [↓reduceIte, go_sem, A4.at, A4.2.1, B4.at, B4.2.1]
  refine effS_call (.inr (.inr (.inr ⟨rfl, u4, _, _, _, a.2.2.2.2.2, rfl, i4.mono s14.ge, j4.mono s14.ge, fun u5 h5 s5 => ⟨by simp (disch := first | omega | (simp only [e_ssz, e_psz, e_hszs, List.length_cons, List.length_nil]; try omega; done)) only [go_sem], ?_⟩⟩)))
  simp (disch := first | omega | (simp only [e_ssz, e_psz, e_hszs, List.length_cons, List.length_nil]; try omega; done)) only [↓reduceIte, go_sem]
  exact hK _ _ ((s1.trans0 s14).trans0 s5)
end Go.Proofs.YtlenjlidahnklaaDoor
