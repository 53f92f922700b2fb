/- shiftAtom, shiftBody, walked. -/
import Derived.Test.YtmnfhmbmifompaaDoorPqG
import Derived.Test.YtmnfhmbmifompaaDoorPlC
import Derived.Test.YtmnfhmbmifompaaDoorPlV2
namespace Go.Ev
open Go Rep Edict
theorem Blk.sets3 {u : U} {h : H} {b : Nat} {cs : List Value} {o : Nat} {x0 x1 x2 : Value} (k : Blk u h b cs) (ho : o + 3 ≤ cs.length) : Blk u (hsets h b o [x0, x1, x2]) b (((cs.set o x0).set (o + 1) x1).set (o + 2) x2) :=
  ((k.set (i := o) (v := x0) (by omega)).set (i := o + 1) (v := x1) (by simp; omega)).set (i := o + 2) (v := x2) (by simp; omega)
end Go.Ev
namespace Go.Proofs.YtmnfhmbmifompaaDoor
open Go Go.Ev Edict
def C_shAtom (vs : List Value) (h : H) (K : Value → H → Prop) : Prop := ∃ (u : U) (v : Value) (a : AtomT) (b : Nat), vs = [.agg #[str a.1, v, .int .i64 a.2.2], .int .i64 (b : Nat)] ∧ IsSl u h v a.2.1 ∧ OkA a ∧ b ≤ 1000000 ∧ ∀ u' h' w, Step S0 u h u' h' → Own h.size u' h' w (shA b a).2.1 → K (.agg #[str a.1, w, .int .i64 (shA b a).2.2]) h'
theorem plShiftAtom_ok {vs : List Value} {h : H} {K : Value → H → Prop} {KP : List PanicEntry → H → Prop} (hC : C_shAtom vs h K) : HCX Tryd.prog 39 vs h K KP := by
  obtain ⟨u, v, ⟨p, l, of⟩, b, rfl, iv, ⟨hof, hl, hln⟩, hb, hK⟩ := hC
  simp only at iv hof hl hln
  simp only [shA] at hK
  obtain ⟨hof1, hof2⟩ := hof
  obtain ⟨va, vc, rfl, m1, m2⟩ := iv.sl
  have hm := mlen'
  refine plShiftAtom_H (fun _ _ _ _ _ => False) (fun _ _ _ _ _ h => h.elim) _ _ ?_
  obtain ⟨u2, s2, B2, B4⟩ := two_new (u := u) (h := h) [str p, .slice va l.length vc, .int .i64 of] [str [], .slice none 0 0, .int .i64 0] 52 52
  obtain ⟨h2, hh2⟩ : ∃ h2, h2 = (h.push (.cells #[str p, .slice va l.length vc, .int .i64 of] 52)).push (.cells #[str [], .slice none 0 0, .int .i64 0] 52) := ⟨_, rfl⟩
  rw [← hh2] at s2 B2 B4
  obtain ⟨h3, h4, u4, hh3, hh4, B3, B5, s4, hz4⟩ := boxed u2 h2 [str [], .slice none 0 0, .int .i64 0] [str p, .slice none 0 0, .int .i64 (of + (b : Nat))] 52 rfl
  have w1 : IntKind.i64.wrap (of + (b : Nat)) = of + (b : Nat) := wr64 (by omega) (by omega)
  have B21 := B2.1
  have B31 := B3.1
  have B24 := B2.step0 s4
  have B44 := B4.step0 s4
  have B241 := B24.1
  have st4 := s2.trans0 s4
  have hz1 : h2.size = h.size + 2 := by rw [hh2]; simp
  simp (disch := first | omega | (simp only [e_ssz, e_psz, e_hszs, List.length_cons, List.length_nil]; try omega; done)) only [↓reduceIte, go_sem, plShiftAtom_S, plShiftAtom_E, ← hh2, B2.at, B2.2.1, w1, ← hh3, ← hh4, B3.2.1, B3.2.2.1, B24.at, B24.2.1]
  obtain ⟨ob, hob⟩ : ∃ ob, ob = h2.size := ⟨_, rfl⟩
  rw [← hob] at B5
  rw [← hob]
  have hob1 : h.size + 1 < ob := by omega
  obtain ⟨I, hI⟩ : ∃ I : Nat → Env → H → Prop, I = fun k σ h' => ∃ (u' : U) (w : Value), σ 1 = .int .i64 (b : Nat) ∧ σ 4 = .pointer (some ⟨h.size + 1, 0, none⟩) ∧ σ 5 = .pointer (some ⟨ob, 0, none⟩) ∧ σ 16 = .slice va l.length vc ∧ σ 17 = .int .i64 (l.length : Nat) ∧ σ 18 = .int .i64 (k : Nat) ∧ k ≤ l.length ∧ Step S0 u h u' h' ∧ Blk u' h' ob [str p, w, .int .i64 (of + (b : Nat))] ∧ Blk u' h' (h.size + 1) [str [], .slice none 0 0, .int .i64 0] ∧ Own h.size u' h' w ((l.take k).map (shTm b)) ∧ (∀ c, OwnB w c → c ≠ ob ∧ c ≠ h.size + 1) := ⟨_, rfl⟩
  refine wpS_loop I (fun j => l.length - j) 0 (by rw [hI]; exact ⟨u4, _, by simp [upd], by simp [upd], by simp [upd], by simp [upd], by simp [upd], by simp [upd], by omega, st4, B5, B44, .nil _ _ _, fun c ⟨_, _, _, q⟩ => (by cases q)⟩) ?_
  clear B24 B44 B241 B5 B3 B2 B4 hh3 hh4 hh2 s2 s4 st4 B21 B31 hz4 hob w1 hz1
  intro k σ h' hy
  rw [hI] at hy
  obtain ⟨u', w, e1, e4, e5, e16, e17, e18, hk, st, D5, D4, ow, hwb⟩ := hy
  obtain ⟨acc, hacc⟩ : ∃ acc, acc = (l.take k).map (shTm b) := ⟨_, rfl⟩
  have hal : acc.length = k := by rw [hacc, List.length_map, List.length_take]; omega
  rw [← hacc] at ow
  obtain ⟨wa, wc, rfl, n1, n2⟩ := ow.sl
  have D51 := D5.1
  have D41 := D4.1
  by_cases hlt : k < l.length
  case neg =>
    rw [List.take_of_length_le (by omega)] at hacc
    rw [← hacc] at hK
    have s7 := Step.sets (S := fun b => b = h.size + 1) u' h' (b := h.size + 1) (o := 0) [str p, .slice wa acc.length wc, .int .i64 (of + (b : Nat))] rfl (by rw [D4.2.2.2.1]; exact Nat.zero_le _) (by rw [D4.2.1]; exact Nat.le_refl _)
    have W := D4.sets (l := [str p, .slice wa acc.length wc, .int .i64 (of + (b : Nat))]) rfl
    obtain ⟨h7, hh7⟩ : ∃ h7, h7 = hsets h' (h.size + 1) 0 [str p, .slice wa acc.length wc, .int .i64 (of + (b : Nat))] := ⟨_, rfl⟩
    rw [← hh7] at s7 W
    have W1 := W.1
    have ow7 := ow.step s7 (fun c q q' => (hwb c q).2 q')
    simp (disch := first | omega | (simp only [e_ssz, e_psz, e_hszs, List.length_cons, List.length_nil]; try omega; done)) only [↓reduceIte, go_sem, plShiftAtom_L1, e4, e5, e17, e18, eq_false (show ¬ (k : Int) < (l.length : Nat) by omega), D5.at, D5.2.1, D4.2.1, D4.2.2.1, ← hh7, W.at, W.2.1]
    exact hK _ _ _ (st.trans s7 (fun c hc q => by omega)) ow7
  obtain ⟨x, hx⟩ : ∃ x, l[k]? = some x := ⟨l[k], by simp [hlt]⟩
  have hxo := hl x (List.mem_of_getElem? hx)
  obtain ⟨hx1, hx2⟩ := hxo
  have jv := iv.mono st.ge
  obtain ⟨pb, po, rfl, hpb, hpu, hpz, hpr⟩ := jv.row k x hx
  rw [rep_term] at hpr
  simp only [termE, sz_term, hvs_4, List.cons.injEq, and_true] at hpr hpu hpz
  obtain ⟨p0, p1, p2, p3⟩ := hpr
  obtain ⟨h5, h6, u6, hh5, hh6, B5, B6, s6, hz6⟩ := boxed u' h' [.int .i64 0, .int .i64 0, str [], .int .i64 0] [.int .i64 x.1, .int .i64 x.2.1, str x.2.2.1, .int .i64 x.2.2.2] 87 rfl
  have w2 : IntKind.i64.wrap (x.2.2.2 + (b : Nat)) = x.2.2.2 + (b : Nat) := wr64 (by omega) (by omega)
  have B51 := B5.1
  have B61 := B6.1
  have B7 := B6.set (i := 3) (v := .int .i64 (x.2.2.2 + (b : Nat))) (by simp)
  have s7 := Step.set (S := fun b => b = h'.size) u6 h6 (b := h'.size) (o := 3) (.int .i64 (x.2.2.2 + (b : Nat))) rfl (by rw [B6.2.2.2.1]; exact Nat.zero_le _)
  obtain ⟨h7, hh7⟩ : ∃ h7, h7 = hset h6 h'.size 3 (.int .i64 (x.2.2.2 + (b : Nat))) := ⟨_, rfl⟩
  rw [← hh7] at B7 s7
  simp only [List.set_cons_succ, List.set_cons_zero] at B7
  have B71 := B7.1
  have D57 := (D5.step0 s6).step s7 (by omega)
  have D47 := (D4.step0 s6).step s7 (by omega)
  have D571 := D57.1
  have ow7 := (ow.step0 s6).step s7 (fun c q q' => by have := ow.lt q; omega)
  have st7 := (st.trans0 s6).trans s7 (fun c hc q => by have := st.ge.sz; omega)
  simp (disch := first | omega | (simp only [e_ssz, e_psz, e_hszs, List.length_cons, List.length_nil]; try omega; done)) only [↓reduceIte, go_sem, plShiftAtom_L1, e1, e5, e16, e17, e18, eq_true (show (k : Int) < (l.length : Nat) by omega), p0, p1, p2, p3, ← hh5, ← hh6, B5.2.1, B5.2.2.1, B6.at, B6.2.1, B6.2.2.1, w2, ← hh7, B7.at, B7.2.1, D57.at, D57.2.1]
  have hxr : Rep.rep u6 h7 (shTm b x) [.int .i64 x.1, .int .i64 x.2.1, str x.2.2.1, .int .i64 (x.2.2.2 + (b : Nat))] := by rw [rep_term]; rfl
  refine effS_app1q (by simp only []) ow7 (x := shTm b x) hxr rfl rfl (by have := st7.ge.sz; omega) (by omega) fun a3 n3 c3 u8 h8 o8 s8 hO8 => ⟨by simp (disch := first | omega | (simp only [e_ssz, e_psz, e_hszs, List.length_cons, List.length_nil]; try omega; done)) only [go_sem], ?_⟩
  obtain ⟨_, _, hme, m31, m32⟩ := o8.sl
  simp only [Value.slice.injEq] at hme
  obtain ⟨rfl, rfl, rfl⟩ := hme
  have hacc2 : acc ++ [shTm b x] = (l.take (k + 1)).map (shTm b) := by rw [List.take_add_one, hx, List.map_append, ← hacc]; rfl
  obtain ⟨acc2, hac2⟩ : ∃ acc2, acc2 = acc ++ [shTm b x] := ⟨_, rfl⟩
  rw [← hac2] at hacc2 o8 hO8 m31 ⊢
  have D58 := D57.step s8 (fun q => (hwb _ q).1 rfl)
  have D48 := D47.step s8 (fun q => (hwb _ q).2 rfl)
  have D581 := D58.1
  have hn8 : ∀ c, OwnB (.slice a3 acc2.length c3) c → c ≠ ob ∧ c ≠ h.size + 1 := fun c q => (hO8 c q).elim (hwb c) (fun z => by have := s7.ge.sz; have := s6.ge.sz; omega)
  have s9 := Step.set (S := fun c => c = ob) u8 h8 (b := ob) (o := 1) (.slice a3 acc2.length c3) rfl (by rw [D58.2.2.2.1]; exact Nat.zero_le _)
  have D59 := D58.set (i := 1) (v := .slice a3 acc2.length c3) (by simp)
  obtain ⟨h9, hh9⟩ : ∃ h9, h9 = hset h8 ob 1 (.slice a3 acc2.length c3) := ⟨_, rfl⟩
  rw [← hh9] at D59 s9
  simp only [List.set_cons_succ, List.set_cons_zero] at D59
  have o9 := o8.step s9 (fun c q q' => (hn8 c q).1 q')
  have D49 := D48.step s9 (by omega)
  have st9 : Step S0 u h u8 h9 := (st7.trans s8 (fun c hc q => by have := ow.ge q; omega)).trans s9 (fun c hc q => by omega)
  simp (disch := first | omega | (simp only [e_ssz, e_psz, e_hszs, List.length_cons, List.length_nil]; try omega; done)) only [↓reduceIte, go_sem, e5, e18, D58.2.1, D58.2.2.1, ← hh9]
  refine ⟨k + 1, ?_, by omega⟩
  rw [hI]
  refine ⟨u8, .slice a3 acc2.length c3, by simp [upd, e1], by simp [upd, e4], by simp [upd, e5], by simp [upd, e16], by simp [upd, e17], by simp [upd], hlt, st9, D59, D49, ?_, hn8⟩
  rw [← hacc2]; exact o9
def C_shBody (vs : List Value) (h : H) (K : Value → H → Prop) : Prop := ∃ (u : U) (v : Value) (l : List LitT) (b : Nat), vs = [v, .int .i64 (b : Nat)] ∧ IsSl u h v l ∧ OkB l ∧ b ≤ 1000000 ∧ ∀ u' h' w, Step S0 u h u' h' → Own h.size u' h' w (l.map (shL b)) → K w h'
def G_shBody : Ctr := fun f vs h K _ => f = 39 ∧ C_shAtom vs h K
theorem G_shBody_ok : GOk Tryd.prog G_shBody := by
  rintro f vs h K KP ⟨rfl, hC⟩; exact plShiftAtom_ok hC
theorem plShiftBody_ok {vs : List Value} {h : H} {K : Value → H → Prop} {KP : List PanicEntry → H → Prop} (hC : C_shBody vs h K) : HCX Tryd.prog 38 vs h K KP := by
  obtain ⟨u, v, l, b, rfl, iv, ⟨hl, hln⟩, hb, hK⟩ := hC
  obtain ⟨va, vc, rfl, m1, m2⟩ := iv.sl
  have hm := mlen'
  refine plShiftBody_H G_shBody G_shBody_ok _ _ ?_
  simp (disch := first | omega | (simp only [e_ssz, e_psz, e_hszs, List.length_cons, List.length_nil]; try omega; done)) only [↓reduceIte, go_sem, plShiftBody_S, plShiftBody_E]
  obtain ⟨I, hI⟩ : ∃ I : Nat → Env → H → Prop, I = fun k σ h' => ∃ (u' : U) (w : Value), σ 1 = .int .i64 (b : Nat) ∧ σ 5 = w ∧ σ 8 = .slice va l.length vc ∧ σ 9 = .int .i64 (l.length : Nat) ∧ σ 10 = .int .i64 (k : Nat) ∧ k ≤ l.length ∧ Step S0 u h u' h' ∧ Own h.size u' h' w ((l.take k).map (shL b)) := ⟨_, rfl⟩
  refine wpS_loop I (fun j => l.length - j) 0 (by rw [hI]; exact ⟨u, _, by simp [upd], by simp [upd], by simp [upd], by simp [upd], by simp [upd], by omega, Step.refl _ _ _, .nil _ _ _⟩) ?_
  intro k σ h' hy
  rw [hI] at hy
  obtain ⟨u', w, e1, e5, e8, e9, e10, hk, st, ow⟩ := hy
  obtain ⟨acc, hacc⟩ : ∃ acc, acc = (l.take k).map (shL b) := ⟨_, rfl⟩
  have hal : acc.length = k := by rw [hacc, List.length_map, List.length_take]; omega
  rw [← hacc] at ow
  obtain ⟨wa, wc, rfl, n1, n2⟩ := ow.sl
  by_cases hlt : k < l.length
  case neg =>
    rw [List.take_of_length_le (by omega)] at hacc
    rw [← hacc] at hK
    simp (disch := first | omega | (simp only [e_ssz, e_psz, e_hszs, List.length_cons, List.length_nil]; try omega; done)) only [↓reduceIte, go_sem, plShiftBody_L1, e5, e9, e10, eq_false (show ¬ (k : Int) < (l.length : Nat) by omega)]
    exact hK _ _ _ st ow
  obtain ⟨x, hx⟩ : ∃ x, l[k]? = some x := ⟨l[k], by simp [hlt]⟩
  obtain ⟨hxa, hxl, hxr, hxo⟩ := hl x (List.mem_of_getElem? hx)
  obtain ⟨hxl1, hxl2⟩ := hxl
  obtain ⟨hxr1, hxr2⟩ := hxr
  obtain ⟨hxo1, hxo2⟩ := hxo
  have jv := iv.mono st.ge
  obtain ⟨pb, po, rfl, hpb, hpu, hpz, hpr⟩ := jv.row k x hx
  rw [rep_lit] at hpr
  obtain ⟨xv, hpr, ixv⟩ := hpr
  obtain ⟨xa, xc, rfl, -, -⟩ := ixv.sl
  simp only [litE, sz_lit, hvs_14, List.cons.injEq, and_true] at hpr hpu hpz
  obtain ⟨p0, p1, p2, p3, p4, p5, p6, p7, p8, p9, p10, p11, p12, p13⟩ := hpr
  obtain ⟨h5, h6, u6, hh5, hh6, B5, B6, s6, hz6⟩ := boxed u' h' [.int .i64 0, str [], .slice none 0 0, .int .i64 0, .int .i64 0, .int .i64 0, .int .i64 0, str [], .int .i64 0, .int .i64 0, .int .i64 0, str [], .int .i64 0, .int .i64 0] [.int .i64 x.1, str x.2.1.1, .slice xa x.2.1.2.1.length xc, .int .i64 x.2.1.2.2, .int .i64 x.2.2.1, .int .i64 x.2.2.2.1.1, .int .i64 x.2.2.2.1.2.1, str x.2.2.2.1.2.2.1, .int .i64 x.2.2.2.1.2.2.2, .int .i64 x.2.2.2.2.1.1, .int .i64 x.2.2.2.2.1.2.1, str x.2.2.2.2.1.2.2.1, .int .i64 x.2.2.2.2.1.2.2.2, .int .i64 x.2.2.2.2.2] 129 rfl
  have w2 : IntKind.i64.wrap (x.2.2.2.2.2 + (b : Nat)) = x.2.2.2.2.2 + (b : Nat) := wr64 (by omega) (by omega)
  have wl : IntKind.i64.wrap (x.2.2.2.1.2.2.2 + (b : Nat)) = x.2.2.2.1.2.2.2 + (b : Nat) := wr64 (by omega) (by omega)
  have wr : IntKind.i64.wrap (x.2.2.2.2.1.2.2.2 + (b : Nat)) = x.2.2.2.2.1.2.2.2 + (b : Nat) := wr64 (by omega) (by omega)
  have B51 := B5.1
  have B61 := B6.1
  have B7 := B6.set (i := 13) (v := .int .i64 (x.2.2.2.2.2 + (b : Nat))) (by simp)
  have s7 := Step.set (S := fun b => b = h'.size) u6 h6 (b := h'.size) (o := 13) (.int .i64 (x.2.2.2.2.2 + (b : Nat))) rfl (by rw [B6.2.2.2.1]; exact Nat.zero_le _)
  obtain ⟨h7, hh7⟩ : ∃ h7, h7 = hset h6 h'.size 13 (.int .i64 (x.2.2.2.2.2 + (b : Nat))) := ⟨_, rfl⟩
  rw [← hh7] at B7 s7
  simp only [List.set_cons_succ, List.set_cons_zero] at B7
  have B71 := B7.1
  have ow7 := (ow.step0 s6).step s7 (fun c q q' => by have := ow.lt q; omega)
  have st7 := (st.trans0 s6).trans s7 (fun c hc q => by have := st.ge.sz; omega)
  have z7 := st7.ge.sz
  have z6 := s6.ge.sz
  have ix7 := (ixv.mono s6.ge).mono s7.ge
  obtain ⟨xb, hxb⟩ : ∃ xb, xb = h'.size := ⟨_, rfl⟩
  have hxb1 : h.size ≤ xb := by have := st.ge.sz; omega
  rw [← hxb] at B5 B51 B6 B61 hh6 B7 hh7 B71 s7
  -- the end of a round: what is appended, and the next
  have done : ∀ (u8 : U) (h8 : H) (y : LitT) (cs : List Value), y = shL b x → Step S0 u h u8 h8 → Own h.size u8 h8 (.slice wa acc.length wc) acc → Rep.rep u8 h8 y cs → ∀ (r : List St) (K2 : Env → H → Prop) (KP2 : List PanicEntry → H → Prop) (σ2 : Env) (d : Option Nat),
      (∀ u9 h9 a3 c3 acc2, acc2 = (l.take (k + 1)).map (shL b) → Step S0 u h u9 h9 → Own h.size u9 h9 (.slice a3 acc2.length c3) acc2 → wpSts G_shBody r K2 KP2 (updo σ2 d (.slice a3 acc2.length c3)) h9) →
      effS G_shBody (.app 129 14 152 [.int .i64 0, str [], .slice none 0 0, .int .i64 0, .int .i64 0, .int .i64 0, .int .i64 0, str [], .int .i64 0, .int .i64 0, .int .i64 0, str [], .int .i64 0, .int .i64 0]) d [] r K2 KP2 [.slice wa acc.length wc, .slice (some ⟨h8.size, 0, none⟩) 1 1] σ2 (h8.push (.cells cs.toArray 129)) := by
    intro u8 h8 y cs hy st8 ow8 hr r K2 KP2 σ2 d hK2
    refine effS_app1q rfl ow8 (x := y) hr rfl rfl (by have := st8.ge.sz; omega) (by omega) fun a3 n3 c3 u9 h9 o9 s9 hO9 => ⟨by simp (disch := first | omega | (simp only [e_ssz, e_psz, e_hszs, List.length_cons, List.length_nil]; try omega; done)) only [go_sem], ?_⟩
    obtain ⟨_, _, hme, m31, m32⟩ := o9.sl
    simp only [Value.slice.injEq] at hme
    obtain ⟨rfl, rfl, rfl⟩ := hme
    have hacc2 : acc ++ [y] = (l.take (k + 1)).map (shL b) := by rw [List.take_add_one, hx, List.map_append, ← hacc, hy]; rfl
    exact hK2 u9 h9 a3 c3 (acc ++ [y]) hacc2 (st8.trans s9 (fun c hc q => by have := ow.ge q; omega)) o9
  have fin : ∀ (σ2 : Env) (u9 : U) (h9 : H) a3 c3 acc2, acc2 = (l.take (k + 1)).map (shL b) → Step S0 u h u9 h9 → Own h.size u9 h9 (.slice a3 acc2.length c3) acc2 → σ2 1 = .int .i64 (b : Nat) → σ2 5 = .slice a3 acc2.length c3 → σ2 8 = .slice (some ⟨pb, po, none⟩) l.length vc → σ2 9 = .int .i64 (l.length : Nat) → σ2 10 = .int .i64 ((k : Int) + 1) → ∃ y, I y σ2 h9 ∧ l.length - y < l.length - k := by
    intro σ2 u9 h9 a3 c3 acc2 hac st9 o9 r1 r5 r8 r9 r10
    refine ⟨k + 1, ?_, by omega⟩
    rw [hI]
    exact ⟨u9, _, r1, r5, r8, r9, by rw [r10]; rfl, hlt, st9, by rw [← hac]; exact o9⟩
  by_cases h3 : x.1 = 3
  · have B8 := B7.set (i := 8) (v := .int .i64 (x.2.2.2.1.2.2.2 + (b : Nat))) (by simp)
    have s8 := Step.set (S := fun b => b = xb) u6 h7 (b := xb) (o := 8) (.int .i64 (x.2.2.2.1.2.2.2 + (b : Nat))) rfl (by rw [B7.2.2.2.1]; exact Nat.zero_le _)
    obtain ⟨h8, hh8⟩ : ∃ h8, h8 = hset h7 xb 8 (.int .i64 (x.2.2.2.1.2.2.2 + (b : Nat))) := ⟨_, rfl⟩
    rw [← hh8] at B8 s8
    simp only [List.set_cons_succ, List.set_cons_zero] at B8
    have B81 := B8.1
    have B9 := B8.set (i := 12) (v := .int .i64 (x.2.2.2.2.1.2.2.2 + (b : Nat))) (by simp)
    have s9 := Step.set (S := fun b => b = xb) u6 h8 (b := xb) (o := 12) (.int .i64 (x.2.2.2.2.1.2.2.2 + (b : Nat))) rfl (by rw [B8.2.2.2.1]; exact Nat.zero_le _)
    obtain ⟨h9, hh9⟩ : ∃ h9, h9 = hset h8 xb 12 (.int .i64 (x.2.2.2.2.1.2.2.2 + (b : Nat))) := ⟨_, rfl⟩
    rw [← hh9] at B9 s9
    simp only [List.set_cons_succ, List.set_cons_zero] at B9
    have B91 := B9.1
    have ow9 := (ow7.step s8 (fun c q q' => by have := ow.lt q; omega)).step s9 (fun c q q' => by have := ow.lt q; omega)
    have st9 := (st7.trans s8 (fun c hc q => by omega)).trans s9 (fun c hc q => by omega)
    have ix9 := (ix7.mono s8.ge).mono s9.ge
    have hsh : shL b x = (x.1, x.2.1, x.2.2.1, shTm b x.2.2.2.1, shTm b x.2.2.2.2.1, x.2.2.2.2.2 + (b : Int)) := by unfold shL; rw [if_pos h3]
    have hrep : Rep.rep u6 h9 (shL b x) [.int .i64 x.1, str x.2.1.1, .slice xa x.2.1.2.1.length xc, .int .i64 x.2.1.2.2, .int .i64 x.2.2.1, .int .i64 x.2.2.2.1.1, .int .i64 x.2.2.2.1.2.1, str x.2.2.2.1.2.2.1, .int .i64 (x.2.2.2.1.2.2.2 + (b : Nat)), .int .i64 x.2.2.2.2.1.1, .int .i64 x.2.2.2.2.1.2.1, str x.2.2.2.2.1.2.2.1, .int .i64 (x.2.2.2.2.1.2.2.2 + (b : Nat)), .int .i64 (x.2.2.2.2.2 + (b : Nat))] := by
      rw [rep_lit, hsh]; exact ⟨_, rfl, ix9⟩
    simp (disch := first | omega | (simp only [e_ssz, e_psz, e_hszs, List.length_cons, List.length_nil]; try omega; done)) only [↓reduceIte, go_sem, plShiftBody_L1, e1, e5, e8, e9, e10, eq_true (show (k : Int) < (l.length : Nat) by omega), p0, p1, p2, p3, p4, p5, p6, p7, p8, p9, p10, p11, p12, p13, ← hh5, ← hh6, B5.2.1, B5.2.2.1, ← hxb, B6.at, B6.2.1, B6.2.2.1, w2, ← hh7, B7.at, B7.2.1, B7.2.2.1, eq_true h3, wl, ← hh8, B8.at, B8.2.1, B8.2.2.1, wr, ← hh9, B9.at, B9.2.1]
    refine done u6 h9 (shL b x) _ rfl st9 ow9 hrep _ _ _ _ _ fun u10 h10 a3 c3 acc2 hac st10 o10 => ?_
    simp (disch := first | omega | (simp only [e_ssz, e_psz, e_hszs, List.length_cons, List.length_nil]; try omega; done)) only [↓reduceIte, go_sem, e10]
    exact fin _ u10 h10 a3 c3 acc2 hac st10 o10 (by simp [upd, e1]) (by simp [upd]) (by simp [upd, e8]) (by simp [upd, e9]) (by simp [upd])
  · simp (disch := first | omega | (simp only [e_ssz, e_psz, e_hszs, List.length_cons, List.length_nil]; try omega; done)) only [↓reduceIte, go_sem, plShiftBody_L1, e1, e8, e9, e10, eq_true (show (k : Int) < (l.length : Nat) by omega), p0, p1, p2, p3, p4, p5, p6, p7, p8, p9, p10, p11, p12, p13, ← hh5, ← hh6, B5.2.1, B5.2.2.1, ← hxb, B6.at, B6.2.1, B6.2.2.1, w2, ← hh7, B7.at, B7.2.1, eq_false h3]
    refine effS_call ⟨rfl, u6, _, x.2.1, b, rfl, ix7, hxa, hb, fun u8 h8 w8 s8 o8 => ⟨by simp (disch := first | omega | (simp only [e_ssz, e_psz, e_hszs, List.length_cons, List.length_nil]; try omega; done)) only [go_sem], ?_⟩⟩
    obtain ⟨ya, yc, rfl, y1, y2⟩ := o8.sl
    have B8 := B7.step0 s8
    have B81 := B8.1
    have B9 := B8.sets3 (o := 1) (x0 := str x.2.1.1) (x1 := .slice ya (shA b x.2.1).2.1.length yc) (x2 := .int .i64 (shA b x.2.1).2.2) (by simp)
    have s9 := Step.sets (S := fun b => b = xb) u8 h8 (b := xb) (o := 1) [str x.2.1.1, .slice ya (shA b x.2.1).2.1.length yc, .int .i64 (shA b x.2.1).2.2] rfl (by rw [B8.2.2.2.1]; exact Nat.zero_le _) (by rw [B8.2.1]; simp)
    obtain ⟨h9, hh9⟩ : ∃ h9, h9 = hsets h8 xb 1 [str x.2.1.1, .slice ya (shA b x.2.1).2.1.length yc, .int .i64 (shA b x.2.1).2.2] := ⟨_, rfl⟩
    rw [← hh9] at B9 s9
    simp only [List.set_cons_succ, List.set_cons_zero, Nat.reduceAdd] at B9
    have B91 := B9.1
    have ow9 := (ow7.step0 s8).step s9 (fun c q q' => by have := ow.lt q; omega)
    have st9 := (st7.trans0 s8).trans s9 (fun c hc q => by omega)
    have ix9 : IsSl u8 h9 (.slice ya (shA b x.2.1).2.1.length yc) (shA b x.2.1).2.1 := o8.isSl.mono s9.ge
    have hsh : shL b x = (x.1, shA b x.2.1, x.2.2.1, x.2.2.2.1, x.2.2.2.2.1, x.2.2.2.2.2 + (b : Int)) := by unfold shL; rw [if_neg h3]
    have hrep : Rep.rep u8 h9 (shL b x) [.int .i64 x.1, str x.2.1.1, .slice ya (shA b x.2.1).2.1.length yc, .int .i64 (shA b x.2.1).2.2, .int .i64 x.2.2.1, .int .i64 x.2.2.2.1.1, .int .i64 x.2.2.2.1.2.1, str x.2.2.2.1.2.2.1, .int .i64 x.2.2.2.1.2.2.2, .int .i64 x.2.2.2.2.1.1, .int .i64 x.2.2.2.2.1.2.1, str x.2.2.2.2.1.2.2.1, .int .i64 x.2.2.2.2.1.2.2.2, .int .i64 (x.2.2.2.2.2 + (b : Nat))] := by
      rw [rep_lit, hsh]; exact ⟨_, rfl, ix9⟩
    have hsl : (shA b x.2.1).2.1.length = x.2.1.2.1.length := by simp [shA]
    simp (disch := first | omega | (simp only [e_ssz, e_psz, e_hszs, List.length_cons, List.length_nil]; try omega; done)) only [↓reduceIte, go_sem, e5, B8.2.1, B8.2.2.1, ← hh9, B9.at, B9.2.1]
    refine done u8 h9 (shL b x) _ rfl st9 ow9 hrep _ _ _ _ _ fun u10 h10 a3 c3 acc2 hac st10 o10 => ?_
    simp (disch := first | omega | (simp only [e_ssz, e_psz, e_hszs, List.length_cons, List.length_nil]; try omega; done)) only [↓reduceIte, go_sem, e10]
    exact fin _ u10 h10 a3 c3 acc2 hac st10 o10 (by simp [upd, e1]) (by simp [upd]) (by simp [upd, e8]) (by simp [upd, e9]) (by simp [upd])
end Go.Proofs.YtmnfhmbmifompaaDoor
