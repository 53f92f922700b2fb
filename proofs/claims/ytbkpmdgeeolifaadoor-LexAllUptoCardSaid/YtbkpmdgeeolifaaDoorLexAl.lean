/- The law LexAll. -/
import Derived.Test.YtbkpmdgeeolifaaDoorLexY
namespace Go.Proofs.YtbkpmdgeeolifaaDoor
open Go Go.Ev Edict
theorem effS_appq {α : Type} [Rep α] {G : Ctr} {e : TypeId} {bytes s : Nat} {z : List Value} {k : Nat} {u : U} {h : H} {v w : Value} {l m : List α} {d : Option Nat} {st : Stab} {r : List St} {K : Env → H → Prop} {KP : List PanicEntry → H → Prop} {σ : Env}
    (ho : Own k u h v l) (hw : IsSl u h w m) (hs : s = Rep.sz α) (hz : z.length = Rep.sz α) (hk : k ≤ h.size) (hb : (l.length + m.length) * bytes ≤ 140737488355328)
    (hK : ∀ a n c u' h', Own k u' h' (.slice a n c) (l ++ m) → Step (OwnB v) u h u' h' → (∀ b, OwnB (.slice a n c) b → OwnB v b ∨ h.size ≤ b) → stabP st σ h h' ∧ wpSts G r K KP (updo σ d (.slice a n c)) h') :
    effS G (.app e s bytes z) d st r K KP [v, w] σ h :=
  own_app ho hw hs hz hk hb fun v' u' h' o' s' b' => by
    obtain ⟨a, c, rfl, -, -⟩ := o'.sl
    exact hK _ _ _ _ _ o' s' b'
def sF : S → S | .seq a _ => a | s => s
def sS : S → S | .seq _ b => b | s => s
def sB : S → S | .block _ s => s | s => s
def sA : S → S | .cond _ a _ => a | s => s
def AllX : S := sB (sF (sS LexAll_L1))
def AllTail : S := sS (sS (sS AllX))
def AllThen : S := sA (sS (sF (sS (sS AllX))))
theorem all_cut : LexAll_L1 = .seq (sF LexAll_L1) (.seq (.block 1 (.seq (sF AllX) (.seq (sF (sS AllX)) (.seq (.seq (sF (sF (sS (sS AllX)))) (.cond 41 AllThen .skip)) AllTail)))) (sS (sS LexAll_L1))) := rfl
theorem made_lists {u : U} {h : H} (ls : List (List Tok)) (vs : List Value) (e : TypeId) (hl : vs.length = ls.length) (hm : ls.length ≤ maxLen) (hr : ∀ (i : Nat) (x : List Tok), ls[i]? = some x → ∃ w, vs[i]? = some w ∧ IsSl u h w x) :
    ∃ u', Step S0 u h u' (h.push (.cells vs.toArray e)) ∧ IsSl u' (h.push (.cells vs.toArray e)) (.slice (some ⟨h.size, 0, none⟩) ls.length ls.length) ls := by
  have := Own.made (k := 0) u h (Nat.zero_le _) e ls vs (by rw [hl]; exact (Nat.mul_one _).symm) hm (fun i x hx => by
    obtain ⟨w, hw, hi⟩ := hr i x hx
    have hsz : Rep.sz (List Tok) = 1 := rfl
    rw [hsz, Nat.mul_one, List.take_one, List.head?_drop, hw, rep_list]
    exact ⟨w, rfl, hi⟩)
  exact ⟨_, Step.push S0 u h vs.toArray e _, this.isSl⟩
theorem cut3 {c : Prop} {G : Ctr} {A B : S} {Q : Post} {σ1 σ2 : Env} {h1 h2 : H} (M : Env → H → Prop) (tail : ∀ σ' h', M σ' h' → wpS G B Q σ' h') (hthen : c → ∀ R : Env → H → Prop, (∀ σ' h', M σ' h' → R σ' h') → wpS G A (Qseq R Q) σ1 h1) (helse : ¬ c → M σ2 h2) : (c → wpS G A (Qseq (wpS G B Q) Q) σ1 h1) ∧ (¬ c → wpS G B Q σ2 h2) := ⟨fun h => hthen h _ tail, fun h => tail _ _ (helse h)⟩
def G_LexAll : Ctr := fun f vs h K _ => (f = 30 ∧ C_playedV vs h K) ∨ (f = 21 ∧ C_scanV vs h K) ∨ (f = 15 ∧ C_rscanV vs h K) ∨ (f = 18 ∧ C_same vs h K) ∨ (f = 31 ∧ C_markV vs h K) ∨ (f = 32 ∧ C_copiedV vs h K)
theorem G_LexAll_ok : GOk Tryd.prog G_LexAll := by
  rintro f vs h K KP (⟨rfl, hC⟩ | ⟨rfl, hC⟩ | ⟨rfl, hC⟩ | ⟨rfl, hC⟩ | ⟨rfl, hC⟩ | ⟨rfl, hC⟩)
  · exact lwPlayedV_ok hC
  · exact lxScanV_ok hC
  · exact rfScanV_ok hC
  · exact lwSame_ok hC
  · exact lwMarkV_ok hC
  · exact lwCopiedV_ok hC
abbrev Good2 (o : OpT) : Prop := o.2.1.length ≤ 140737488351232 ∧ (-9223372036854775808 ≤ o.2.2.1 ∧ o.2.2.1 ≤ 9223372036854775807)
def C_all (vs : List Value) (h : H) (K : Value → H → Prop) : Prop := ∃ (u : U) (v : Value) (l : List OpT), vs = [v] ∧ IsSl u h v l ∧ l.length ≤ 1048576 ∧ (∀ o ∈ l, Good2 o) ∧ LxG u h ∧ ∀ u' h', Step S0 u h u' h' → K (.bool true) h'
theorem rep_op {u : U} {h : H} {o : OpT} {cs : List Value} : Rep.rep u h o cs = (cs = [.int .i64 o.1, str o.2.1, .int .i64 o.2.2.1, .int .i64 o.2.2.2]) := by simp [rep_prod, rep_int, rep_str]
theorem sz_op : Rep.sz OpT = 4 := rfl
theorem LexAll_ok {vs : List Value} {h : H} {K : Value → H → Prop} {KP : List PanicEntry → H → Prop} (hC : C_all vs h K) : HCX Tryd.prog 14 vs h K KP := by
  obtain ⟨u, v, l, rfl, hv, hlen, hgood, hG, hK⟩ := hC
  obtain ⟨wa, wc, rfl, q1, q2⟩ := hv.sl
  have hm := mlen'
  refine LexAll_H G_LexAll G_LexAll_ok _ ?_
  simp (disch := first | omega | (simp only [e_ssz, e_psz, e_hszs, List.length_cons, List.length_nil]; try omega; done)) only [go_sem, LexAll_S, LexAll_E]
  obtain ⟨I, hI⟩ : ∃ I : Nat → Env → H → Prop, I = fun i σ h' => ∃ (u' : U) (v1 v2 : Value) (Ls : List (List Tok)), σ 0 = .slice wa l.length wc ∧ σ 3 = v1 ∧ σ 4 = v2 ∧ σ 5 = .int .i64 i ∧ i ≤ l.length ∧ Step S0 u h u' h' ∧ Own h.size u' h' v1 Ls ∧ Own h.size u' h' v2 Ls ∧ (∀ b, OwnB v1 b → ¬ OwnB v2 b) ∧ Ls.length ≤ 6 * i ∧ ∀ x ∈ Ls, x.length ≤ 65540 := ⟨_, rfl⟩
  refine wpS_loop I (fun j => l.length - j) 0 (by rw [hI]; exact ⟨u, _, _, [], by simp [upd], by simp [upd], by simp [upd], by simp [upd], by omega, Step.refl _ _ _, .nil _ _ _, .nil _ _ _, fun b ⟨o, n, c, q⟩ => (by cases q), by simp, fun x hx => by cases hx⟩) ?_
  intro i σ h' hy
  rw [hI] at hy
  obtain ⟨u', v1, v2, Ls, e0, e3, e4, e5, hi, st', w1, w2, hD, hLs, hLx⟩ := hy
  have i' := hv.mono st'.ge
  by_cases hlt : i < l.length
  case neg =>
    simp (disch := first | omega | (simp only [e_ssz, e_psz, e_hszs, List.length_cons, List.length_nil]; try omega; done)) only [↓reduceIte, go_sem, LexAll_L1, e0, e5, hlt]
    exact hK _ _ st'
  obtain ⟨o, ho⟩ : ∃ o, l[i]? = some o := ⟨l[i], by simp [hlt]⟩
  obtain ⟨g1, g2⟩ := hgood o (List.mem_of_getElem? ho)
  obtain ⟨pb, po, rfl, hpb, hpu, hpz, hpr⟩ := i'.row i o ho
  rw [rep_op] at hpr
  simp only [sz_op, hvs_4, List.cons.injEq, and_true] at hpr hpu hpz
  obtain ⟨p0, p1, p2, p3⟩ := hpr
  obtain ⟨M, hM⟩ : ∃ M : Env → H → Prop, M = fun σ' h2 => ∃ (u2 : U) (v1 v2 v7 : Value) (Ls : List (List Tok)) (l7 : List Tok), σ' 0 = .slice (some ⟨pb, po, none⟩) l.length wc ∧ σ' 3 = v1 ∧ σ' 4 = v2 ∧ σ' 5 = .int .i64 i ∧ σ' 7 = v7 ∧ Step S0 u h u2 h2 ∧ Own h.size u2 h2 v1 Ls ∧ Own h.size u2 h2 v2 Ls ∧ (∀ b, OwnB v1 b → ¬ OwnB v2 b) ∧ TokV u2 h2 v7 l7 ∧ (∀ b, OwnB v7 b → h.size ≤ b ∧ ¬ OwnB v1 b ∧ ¬ OwnB v2 b) ∧ l7.length ≤ 65537 ∧ Ls.length ≤ 6 * i + 4 ∧ ∀ x ∈ Ls, x.length ≤ 65540 := ⟨_, rfl⟩
  rw [all_cut]
  simp (disch := first | omega | (simp only [e_ssz, e_psz, e_hszs, List.length_cons, List.length_nil]; try omega; done)) only [↓reduceIte, go_sem, sF, sS, sB, AllX, LexAll_L1, e0, e5, hlt, p0, p1, p2, p3]
  refine effS_call (.inl ⟨rfl, u', o.1, o.2.1, o.2.2.1, o.2.2.2, rfl, by omega, g2, hG.mono st'.ge, fun u2 h2 v s2 t2 hbv => ⟨by simp (disch := first | omega | (simp only [e_ssz, e_psz, e_hszs, List.length_cons, List.length_nil]; try omega; done)) only [go_sem], ?_⟩⟩)
  have i2 := i'.mono s2.ge
  obtain ⟨pb', po', hq, hpb2, hpu2, hpz2, hpr2⟩ := i2.row i o ho
  cases hq
  rw [rep_op] at hpr2
  simp only [sz_op, hvs_4, List.cons.injEq, and_true] at hpr2 hpu2 hpz2
  obtain ⟨p0', p1', p2', p3'⟩ := hpr2
  simp (disch := first | omega | (simp only [e_ssz, e_psz, e_hszs, List.length_cons, List.length_nil]; try omega; done)) only [↓reduceIte, go_sem, e0, e5, p0', hlt]
  have st2 := st'.trans0 s2
  have w12 := w1.step0 s2
  have w22 := w2.step0 s2
  have hv7 : ∀ b, OwnB v b → h.size ≤ b ∧ ¬ OwnB v1 b ∧ ¬ OwnB v2 b := fun b q => by
    have := hbv b q
    have := st'.ge.sz
    exact ⟨by omega, fun q' => by have := w1.lt q'; omega, fun q' => by have := w2.lt q'; omega⟩
  refine cut3 M ?_ ?_ ?_
  rotate_left 2
  · intro hk
    rw [if_neg hk] at t2
    rw [hM]
    exact ⟨u2, v1, v2, v, Ls, [], by simp [upd, e0], by simp [upd, e3], by simp [upd, e4], by simp [upd, e5], by simp [upd], st2, w12, w22, hD, t2, hv7, by simp, by omega, hLx⟩
  · intro σ2 hh2 hm2
    rw [hM] at hm2
    obtain ⟨u3, v3, v4, v7, Ls, l7, f0, f3, f4, f5, f7, st3, w13, w23, hD3, t7, hb7, hl7, hLs3, hLx3⟩ := hm2
    obtain ⟨a7, c7, rfl, -, -⟩ := t7.sl
    simp (disch := first | omega | (simp only [e_ssz, e_psz, e_hszs, List.length_cons, List.length_nil]; try omega; done)) only [↓reduceIte, go_sem, AllTail, sF, sS, sB, AllX, LexAll_L1, f5, f7]
    refine effS_call (.inr (.inr (.inr (.inr (.inl ⟨rfl, u3, _, l7, 100 + (i : Int), rfl, t7, by omega, fun h4 s4 t4 => ⟨by simp (disch := first | omega | (simp only [e_ssz, e_psz, e_hszs, List.length_cons, List.length_nil]; try omega; done)) only [go_sem], ?_⟩⟩)))))
    have hML := markL_len (100 + (i : Int)) l7.length
    obtain ⟨ML, hML0⟩ : ∃ ML, ML = markL (100 + (i : Int)) l7.length := ⟨_, rfl⟩
    rw [← hML0] at t4 hML
    have st4 := st3.trans s4 (fun b hb q => by have := (hb7 b q).1; omega)
    have w14 := w13.step s4 (fun b q q' => (hb7 b q').2.1 q)
    have w24 := w23.step s4 (fun b q q' => (hb7 b q').2.2 q)
    have hz4 : h.size ≤ h4.size := st4.ge.sz
    obtain ⟨u5, s5, o5⟩ := t4.own (k := h.size) (fun b q => (hb7 b q).1)
    simp (disch := first | omega | (simp only [e_ssz, e_psz, e_hszs, List.length_cons, List.length_nil]; try omega; done)) only [↓reduceIte, go_sem, f5, f7]
    refine effS_app1q (by simp only []) o5 (x := (100 + (i : Int), [], 0, 0, 0, -1)) (by rw [rep_tok]; rfl) rfl rfl hz4 (by omega) fun a9 n9 c9 u6 h6 x6 s6 hO6 => ⟨by simp (disch := first | omega | (simp only [e_ssz, e_psz, e_hszs, List.length_cons, List.length_nil]; try omega; done)) only [go_sem], ?_⟩
    obtain ⟨ML2, hML2⟩ : ∃ ML2, ML2 = ML ++ [((100 + (i : Int), [], 0, 0, 0, -1) : Tok)] := ⟨_, rfl⟩
    rw [← hML2] at x6
    have hML2l : ML2.length = l7.length + 1 := by rw [hML2, List.length_append, hML]; rfl
    have i6 := o5.isSl.mono s6.ge
    have s56 := s5.trans s6 (fun b _ q => q)
    have st6 := st4.trans s56 (fun b hb q => by have := (hb7 b q).1; omega)
    have w16 := w14.step s56 (fun b q q' => (hb7 b q').2.1 q)
    have w26 := w24.step s56 (fun b q q' => (hb7 b q').2.2 q)
    have hz6 : h.size ≤ h6.size := st6.ge.sz
    obtain ⟨_, _, hme9, -, -⟩ := x6.sl
    simp only [Value.slice.injEq] at hme9
    obtain ⟨rfl, rfl, rfl⟩ := hme9
    simp (disch := first | omega | (simp only [e_ssz, e_psz, e_hszs, List.length_cons, List.length_nil]; try omega; done)) only [↓reduceIte, go_sem, f3, f7]
    obtain ⟨u7, s7, i7⟩ := made_lists (u := u6) (h := h6) [ML, ML2] [.slice a7 l7.length c7, .slice a9 ML2.length c9] 22 rfl (show 2 ≤ maxLen by decide) (fun i x hx => by
      match i with
      | 0 => cases hx; exact ⟨_, rfl, i6⟩
      | 1 => cases hx; exact ⟨_, rfl, x6.isSl⟩
      | i + 2 => simp at hx)
    have w17 := w16.step0 s7
    have w27 := w26.step0 s7
    have st7 := st6.trans0 s7
    have z77 := i6.mono s7.ge
    have z97 := x6.isSl.mono s7.ge
    refine effS_appq w17 i7 rfl rfl st7.ge.sz (by simp only [List.length_cons, List.length_nil]; omega) fun a1 n1 c1 u8 h8 w18 s8 hO8 => ⟨by simp (disch := first | omega | (simp only [e_ssz, e_psz, e_hszs, List.length_cons, List.length_nil]; try omega; done)) only [go_sem], ?_⟩
    have w28 := w27.step s8 (fun b q q' => hD3 b q' q)
    have hD8 : ∀ b, OwnB (.slice a1 n1 c1) b → ¬ OwnB v4 b := fun b q q' => (hO8 b q).elim (fun z => hD3 b z q') (fun z => by have := w27.lt q'; omega)
    have st8 := st7.trans s8 (fun b hb q => by have := w17.ge q; omega)
    have z78 := z77.mono s8.ge
    have z98 := z97.mono s8.ge
    simp (disch := first | omega | (simp only [e_ssz, e_psz, e_hszs, List.length_cons, List.length_nil]; try omega; done)) only [↓reduceIte, go_sem, f7]
    refine effS_call (.inr (.inr (.inr (.inr (.inr ⟨rfl, u8, _, ML, rfl, isSl_all z78, by omega, fun u9 h9 x9 s9 y9 => ⟨by simp (disch := first | omega | (simp only [e_ssz, e_psz, e_hszs, List.length_cons, List.length_nil]; try omega; done)) only [go_sem], ?_⟩⟩)))))
    have w19 := w18.step0 s9
    have w29 := w28.step0 s9
    have st9 := st8.trans0 s9
    have z79 := z78.mono s9.ge
    have z99 := z98.mono s9.ge
    simp (disch := first | omega | (simp only [e_ssz, e_psz, e_hszs, List.length_cons, List.length_nil]; try omega; done)) only [↓reduceIte, go_sem]
    refine effS_call (.inr (.inr (.inr (.inr (.inr ⟨rfl, u9, _, ML2, rfl, isSl_all z99, by omega, fun u10 h10 x10 s10 y10 => ⟨by simp (disch := first | omega | (simp only [e_ssz, e_psz, e_hszs, List.length_cons, List.length_nil]; try omega; done)) only [go_sem], ?_⟩⟩)))))
    have w1a := w19.step0 s10
    have w2a := w29.step0 s10
    have sta := st9.trans0 s10
    have y9a := y9.mono s10.ge
    obtain ⟨e9, g9, rfl, -, -⟩ := y9a.sl
    obtain ⟨e10, g10, rfl, -, -⟩ := y10.sl
    simp (disch := first | omega | (simp only [e_ssz, e_psz, e_hszs, List.length_cons, List.length_nil]; try omega; done)) only [↓reduceIte, go_sem, f4]
    obtain ⟨u11, s11, i11⟩ := made_lists (u := u10) (h := h10) [ML, ML2] [.slice e9 ML.length g9, .slice e10 ML2.length g10] 22 rfl (show 2 ≤ maxLen by decide) (fun i x hx => by
      match i with
      | 0 => cases hx; exact ⟨_, rfl, y9a⟩
      | 1 => cases hx; exact ⟨_, rfl, y10⟩
      | i + 2 => simp at hx)
    have w1b := w1a.step0 s11
    have w2b := w2a.step0 s11
    have stb := sta.trans0 s11
    refine effS_appq w2b i11 rfl rfl stb.ge.sz (by simp only [List.length_cons, List.length_nil]; omega) fun a2 n2 c2 u12 h12 w2c s12 hO12 => ⟨by simp (disch := first | omega | (simp only [e_ssz, e_psz, e_hszs, List.length_cons, List.length_nil]; try omega; done)) only [go_sem], ?_⟩
    have w1c := w1b.step s12 (fun b q q' => hD8 b q q')
    have hDc : ∀ b, OwnB (.slice a1 n1 c1) b → ¬ OwnB (.slice a2 n2 c2) b := fun b q q' => (hO12 b q').elim (fun z => hD8 b q z) (fun z => by have := w1b.lt q; omega)
    have stc := stb.trans s12 (fun b hb q => by have := w2b.ge q; omega)
    obtain ⟨Ls', hLs'⟩ : ∃ Ls', Ls' = Ls ++ [ML, ML2] := ⟨_, rfl⟩
    rw [← hLs'] at w1c w2c
    have hLsl : Ls'.length = Ls.length + 2 := by rw [hLs', List.length_append]; rfl
    have hLsx : ∀ x ∈ Ls', x.length ≤ 65540 := fun x hx => by
      rw [hLs', List.mem_append] at hx
      rcases hx with hx | hx
      · exact hLx3 x hx
      · simp only [List.mem_cons, List.not_mem_nil, or_false] at hx
        rcases hx with rfl | rfl <;> omega
    obtain ⟨_, _, hme1, -, -⟩ := w1c.sl
    simp only [Value.slice.injEq] at hme1
    obtain ⟨rfl, rfl, rfl⟩ := hme1
    obtain ⟨_, _, hme2, -, -⟩ := w2c.sl
    simp only [Value.slice.injEq] at hme2
    obtain ⟨rfl, rfl, rfl⟩ := hme2
    simp (disch := first | omega | (simp only [e_ssz, e_psz, e_hszs, List.length_cons, List.length_nil]; try omega; done)) only [↓reduceIte, go_sem]
    obtain ⟨J, hJ⟩ : ∃ J : Nat → Env → H → Prop, J = fun k σ h' => σ 0 = .slice (some ⟨pb, po, none⟩) l.length wc ∧ σ 3 = .slice a1 Ls'.length c1 ∧ σ 4 = .slice a2 Ls'.length c2 ∧ σ 5 = .int .i64 i ∧ σ 19 = .int .i64 k ∧ k ≤ Ls'.length ∧ h' = h12 := ⟨_, rfl⟩
    refine wpS_loop J (fun j => Ls'.length - j) 0 (by rw [hJ]; exact ⟨by simp [upd, f0], by simp [upd], by simp [upd], by simp [upd, f5], by simp [upd], by omega, rfl⟩) ?_
    intro k σ3 h13 hj
    rw [hJ] at hj
    obtain ⟨j0, j3, j4, j5, j19, hk, rfl⟩ := hj
    by_cases hkl : k < Ls'.length
    case neg =>
      simp (disch := first | omega | (simp only [e_ssz, e_psz, e_hszs, List.length_cons, List.length_nil]; try omega; done)) only [↓reduceIte, go_sem, LexAll_L2, j3, j5, j19, eq_false (show ¬ (k : Int) < (Ls'.length : Nat) by omega)]
      refine ⟨i + 1, ?_, by omega⟩
      rw [hI]
      refine ⟨u12, _, _, Ls', ?_, ?_, ?_, ?_, hlt, stc, w1c, w2c, hDc, by omega, hLsx⟩ <;> simp [upd, j0, j3, j4]
    obtain ⟨x, hx⟩ : ∃ x, Ls'[k]? = some x := ⟨Ls'[k], by simp [hkl]⟩
    have hszl : Rep.sz (List Tok) = 1 := rfl
    obtain ⟨ab, ao, rfl, hab, hau, haz, har⟩ := w1c.isSl.row k x hx
    obtain ⟨bb, bo, rfl, hbb, hbu, hbz, hbr⟩ := w2c.isSl.row k x hx
    rw [rep_list] at har hbr
    obtain ⟨wx, hwx, iwx⟩ := har
    obtain ⟨wy, hwy, iwy⟩ := hbr
    obtain ⟨xa, xc, rfl, -, -⟩ := iwx.sl
    obtain ⟨ya, yc, rfl, -, -⟩ := iwy.sl
    simp only [hszl, hvs_1, List.cons.injEq, and_true] at hwx hwy hau haz hbu hbz
    simp (disch := first | omega | (simp only [e_ssz, e_psz, e_hszs, List.length_cons, List.length_nil]; try omega; done)) only [↓reduceIte, go_sem, LexAll_L2, j3, j4, j19, hkl, hwx, hwy]
    refine effS_call (.inr (.inr (.inr (.inl ⟨rfl, u12, _, _, x, x, rfl, iwx, iwy, ⟨by simp (disch := first | omega | (simp only [e_ssz, e_psz, e_hszs, List.length_cons, List.length_nil]; try omega; done)) only [go_sem], ?_⟩⟩))))
    simp (disch := first | omega | (simp only [e_ssz, e_psz, e_hszs, List.length_cons, List.length_nil]; try omega; done)) only [↓reduceIte, go_sem, j19]
    refine ⟨k + 1, ?_, by omega⟩
    rw [hJ]
    refine ⟨?_, ?_, ?_, ?_, ?_, hkl, rfl⟩ <;> simp [upd, j0, j3, j4, j5]
  · intro hk R hR
    rw [if_pos hk] at t2
    simp (disch := first | omega | (simp only [e_ssz, e_psz, e_hszs, List.length_cons, List.length_nil]; try omega; done)) only [↓reduceIte, go_sem, AllThen, sF, sS, sB, sA, AllX, LexAll_L1, e0, e5, p1', hlt]
    obtain ⟨PS, hPS⟩ : ∃ PS, PS = ([112, 40, 88, 41, 32, 58, 45, 32, 113, 44, 32, 49, 32, 60, 32, 50, 46, 32, 37, 32] : List UInt8) ++ o.2.1 := ⟨_, rfl⟩
    have hPl : PS.length = 20 + o.2.1.length := by rw [hPS, List.length_append]; rfl
    refine ⟨by omega, ?_⟩
    rw [← hPS]
    obtain ⟨LS, hLS⟩ : ∃ LS, LS = (scanF o.2.1).1 := ⟨_, rfl⟩
    obtain ⟨LP, hLP⟩ : ∃ LP, LP = (scanF PS).1 := ⟨_, rfl⟩
    have hLSl : LS.length ≤ 65537 := by rw [hLS]; exact scanF_len _
    have hLPl : LP.length ≤ 65537 := by rw [hLP]; exact scanF_len _
    rw [← hLS] at t2
    obtain ⟨a7, c7, rfl, -, -⟩ := t2.sl
    have hz2 : h.size ≤ h2.size := st2.ge.sz
    refine effS_call (.inr (.inl ⟨rfl, u2, PS, rfl, by omega, hG.mono (st2).ge, fun ua1 ha1 va1 sa1 ta1 hba1 => ⟨by simp (disch := first | omega | (simp only [e_ssz, e_psz, e_hszs, List.length_cons, List.length_nil]; try omega; done)) only [go_sem], ?_⟩⟩))
    obtain ⟨cc1, hcc1⟩ : ∃ c, c = (scanF PS).2.1 := ⟨_, rfl⟩
    obtain ⟨pp1, hpp1⟩ : ∃ p, p = (scanF PS).2.2 := ⟨_, rfl⟩
    rw [← hLP] at ta1
    rw [← hcc1, ← hpp1]
    have sb1 := (sa1).trans0 (Step.push0 S0 ua1 ha1 (fltE cc1 pp1).toArray 25)
    have tp1 := Step.push0 S0 ua1 ha1 (fltE cc1 pp1).toArray 25
    simp only [fltE] at sb1 tp1 ⊢
    obtain ⟨hb1, hhb1⟩ : ∃ hb, hb = ha1.push (.cells #[.int .i64 cc1, .int .i64 0, .int .i64 (pp1 : Int)] 25) := ⟨_, rfl⟩
    obtain ⟨ub1, hub1⟩ : ∃ x, x = ub ua1 ha1.size 0 := ⟨_, rfl⟩
    rw [← hhb1, ← hub1] at sb1 tp1
    obtain ⟨xa1, xc1, rfl, -, -⟩ := ta1.sl
    have tb1 := ta1.step0 tp1
    have sz1 : h2.size ≤ hb1.size := sb1.ge.sz
    have stt1 := (st2).trans0 sb1
    have ist1 := (i2).mono sb1.ge
    obtain ⟨pbr1, por1, hqr1, hpbr1, hpur1, hpzr1, hprr1⟩ := (ist1).row i o ho
    cases hqr1
    rw [rep_op] at hprr1
    simp only [sz_op, hvs_4, List.cons.injEq, and_true] at hprr1 hpur1 hpzr1
    obtain ⟨p0r1, p1r1, p2r1, p3r1⟩ := hprr1
    simp (disch := first | omega | (simp only [e_ssz, e_psz, e_hszs, List.length_cons, List.length_nil]; try omega; done)) only [↓reduceIte, go_sem, ← hhb1, e0, e5, p1r1, hlt]
    refine effS_call (.inr (.inl ⟨rfl, ub1, o.2.1, rfl, by omega, hG.mono (stt1).ge, fun ua2 ha2 va2 sa2 ta2 hba2 => ⟨by simp (disch := first | omega | (simp only [e_ssz, e_psz, e_hszs, List.length_cons, List.length_nil]; try omega; done)) only [go_sem], ?_⟩⟩))
    obtain ⟨cc2, hcc2⟩ : ∃ c, c = (scanF o.2.1).2.1 := ⟨_, rfl⟩
    obtain ⟨pp2, hpp2⟩ : ∃ p, p = (scanF o.2.1).2.2 := ⟨_, rfl⟩
    rw [← hLS] at ta2
    rw [← hcc2, ← hpp2]
    have sb2 := (sa2).trans0 (Step.push0 S0 ua2 ha2 (fltE cc2 pp2).toArray 25)
    have tp2 := Step.push0 S0 ua2 ha2 (fltE cc2 pp2).toArray 25
    simp only [fltE] at sb2 tp2 ⊢
    obtain ⟨hb2, hhb2⟩ : ∃ hb, hb = ha2.push (.cells #[.int .i64 cc2, .int .i64 0, .int .i64 (pp2 : Int)] 25) := ⟨_, rfl⟩
    obtain ⟨ub2, hub2⟩ : ∃ x, x = ub ua2 ha2.size 0 := ⟨_, rfl⟩
    rw [← hhb2, ← hub2] at sb2 tp2
    obtain ⟨xa2, xc2, rfl, -, -⟩ := ta2.sl
    have tb2 := ta2.step0 tp2
    have sz2 : hb1.size ≤ hb2.size := sb2.ge.sz
    have stt2 := (stt1).trans0 sb2
    have ist2 := (ist1).mono sb2.ge
    obtain ⟨pbr2, por2, hqr2, hpbr2, hpur2, hpzr2, hprr2⟩ := (ist2).row i o ho
    cases hqr2
    rw [rep_op] at hprr2
    simp only [sz_op, hvs_4, List.cons.injEq, and_true] at hprr2 hpur2 hpzr2
    obtain ⟨p0r2, p1r2, p2r2, p3r2⟩ := hprr2
    simp (disch := first | omega | (simp only [e_ssz, e_psz, e_hszs, List.length_cons, List.length_nil]; try omega; done)) only [↓reduceIte, go_sem, ← hhb2, e0, e5, p1r2, hlt]
    refine effS_call (.inr (.inr (.inl ⟨rfl, ub2, o.2.1, rfl, by omega, fun ua3 ha3 va3 sa3 ta3 => ⟨by simp (disch := first | omega | (simp only [e_ssz, e_psz, e_hszs, List.length_cons, List.length_nil]; try omega; done)) only [go_sem], ?_⟩⟩)))
    obtain ⟨cc3, hcc3⟩ : ∃ c, c = (scanF o.2.1).2.1 := ⟨_, rfl⟩
    obtain ⟨pp3, hpp3⟩ : ∃ p, p = (scanF o.2.1).2.2 := ⟨_, rfl⟩
    rw [← hLS] at ta3
    rw [← hcc3, ← hpp3]
    have sb3 := (sa3).trans0 (Step.push0 S0 ua3 ha3 (fltE cc3 pp3).toArray 25)
    have tp3 := Step.push0 S0 ua3 ha3 (fltE cc3 pp3).toArray 25
    simp only [fltE] at sb3 tp3 ⊢
    obtain ⟨hb3, hhb3⟩ : ∃ hb, hb = ha3.push (.cells #[.int .i64 cc3, .int .i64 0, .int .i64 (pp3 : Int)] 25) := ⟨_, rfl⟩
    obtain ⟨ub3, hub3⟩ : ∃ x, x = ub ua3 ha3.size 0 := ⟨_, rfl⟩
    rw [← hhb3, ← hub3] at sb3 tp3
    obtain ⟨xa3, xc3, rfl, -, -⟩ := ta3.sl
    have tb3 := ta3.mono tp3.ge
    have sz3 : hb2.size ≤ hb3.size := sb3.ge.sz
    have stt3 := (stt2).trans0 sb3
    have ist3 := (ist2).mono sb3.ge
    obtain ⟨pbr3, por3, hqr3, hpbr3, hpur3, hpzr3, hprr3⟩ := (ist3).row i o ho
    cases hqr3
    rw [rep_op] at hprr3
    simp only [sz_op, hvs_4, List.cons.injEq, and_true] at hprr3 hpur3 hpzr3
    obtain ⟨p0r3, p1r3, p2r3, p3r3⟩ := hprr3
    simp (disch := first | omega | (simp only [e_ssz, e_psz, e_hszs, List.length_cons, List.length_nil]; try omega; done)) only [↓reduceIte, go_sem, ← hhb3, e0, e5, p1r3, hlt]
    refine ⟨by omega, ?_⟩
    rw [← hPS]
    refine effS_call (.inr (.inr (.inl ⟨rfl, ub3, PS, rfl, by omega, fun ua4 ha4 va4 sa4 ta4 => ⟨by simp (disch := first | omega | (simp only [e_ssz, e_psz, e_hszs, List.length_cons, List.length_nil]; try omega; done)) only [go_sem], ?_⟩⟩)))
    obtain ⟨cc4, hcc4⟩ : ∃ c, c = (scanF PS).2.1 := ⟨_, rfl⟩
    obtain ⟨pp4, hpp4⟩ : ∃ p, p = (scanF PS).2.2 := ⟨_, rfl⟩
    rw [← hLP] at ta4
    rw [← hcc4, ← hpp4]
    have sb4 := (sa4).trans0 (Step.push0 S0 ua4 ha4 (fltE cc4 pp4).toArray 25)
    have tp4 := Step.push0 S0 ua4 ha4 (fltE cc4 pp4).toArray 25
    simp only [fltE] at sb4 tp4 ⊢
    obtain ⟨hb4, hhb4⟩ : ∃ hb, hb = ha4.push (.cells #[.int .i64 cc4, .int .i64 0, .int .i64 (pp4 : Int)] 25) := ⟨_, rfl⟩
    obtain ⟨ub4, hub4⟩ : ∃ x, x = ub ua4 ha4.size 0 := ⟨_, rfl⟩
    rw [← hhb4, ← hub4] at sb4 tp4
    obtain ⟨xa4, xc4, rfl, -, -⟩ := ta4.sl
    have tb4 := ta4.mono tp4.ge
    have sz4 : hb3.size ≤ hb4.size := sb4.ge.sz
    have stt4 := (stt3).trans0 sb4
    have ist4 := (ist3).mono sb4.ge
    obtain ⟨pbr4, por4, hqr4, hpbr4, hpur4, hpzr4, hprr4⟩ := (ist4).row i o ho
    cases hqr4
    rw [rep_op] at hprr4
    simp only [sz_op, hvs_4, List.cons.injEq, and_true] at hprr4 hpur4 hpzr4
    obtain ⟨p0r4, p1r4, p2r4, p3r4⟩ := hprr4
    simp (disch := first | omega | (simp only [e_ssz, e_psz, e_hszs, List.length_cons, List.length_nil]; try omega; done)) only [↓reduceIte, go_sem, ← hhb4]
    have t7 := (((t2.step0 sb1).step0 sb2).step0 sb3).step0 sb4
    have tO := ((tb1.step0 sb2).step0 sb3).step0 sb4
    have tA := (tb2.step0 sb3).step0 sb4
    have iW := tb3.mono sb4.ge
    have iP := tb4
    have wx1 := (((w12.step0 sb1).step0 sb2).step0 sb3).step0 sb4
    have wx2 := (((w22.step0 sb1).step0 sb2).step0 sb3).step0 sb4
    have d7 : ∀ b, OwnB (.slice a7 LS.length c7) b → b < h2.size ∧ h'.size ≤ b := fun b q => ⟨t2.lt q, hbv b q⟩
    have dO : ∀ b, OwnB (.slice xa1 LP.length xc1) b → h2.size ≤ b ∧ b < hb1.size := fun b q => ⟨hba1 b q, tb1.lt q⟩
    have dA : ∀ b, OwnB (.slice xa2 LS.length xc2) b → hb1.size ≤ b ∧ b < hb2.size := fun b q => ⟨hba2 b q, tb2.lt q⟩
    have d1 : ∀ b, OwnB v1 b → b < h'.size := fun b q => w1.lt q
    have d2 : ∀ b, OwnB v2 b → b < h'.size := fun b q => w2.lt q
    have hzs : h.size ≤ h'.size ∧ h'.size ≤ h2.size := ⟨st'.ge.sz, s2.ge.sz⟩
    refine effS_call (.inr (.inr (.inr (.inl ⟨rfl, hsz hb4, _, _, LS, LS, rfl, t7.isSl, isSl_all iW, ⟨by simp (disch := first | omega | (simp only [e_ssz, e_psz, e_hszs, List.length_cons, List.length_nil]; try omega; done)) only [go_sem], ?_⟩⟩))))
    rw [decide_eq_true rfl]
    simp (disch := first | omega | (simp only [e_ssz, e_psz, e_hszs, List.length_cons, List.length_nil]; try omega; done)) only [↓reduceIte, go_sem]
    refine effS_call (.inr (.inr (.inr (.inl ⟨rfl, hsz hb4, _, _, LS, LS, rfl, tA.isSl, isSl_all iW, ⟨by simp (disch := first | omega | (simp only [e_ssz, e_psz, e_hszs, List.length_cons, List.length_nil]; try omega; done)) only [go_sem], ?_⟩⟩))))
    rw [decide_eq_true rfl]
    simp (disch := first | omega | (simp only [e_ssz, e_psz, e_hszs, List.length_cons, List.length_nil]; try omega; done)) only [↓reduceIte, go_sem]
    refine effS_call (.inr (.inr (.inr (.inl ⟨rfl, hsz hb4, _, _, LP, LP, rfl, tO.isSl, isSl_all iP, ⟨by simp (disch := first | omega | (simp only [e_ssz, e_psz, e_hszs, List.length_cons, List.length_nil]; try omega; done)) only [go_sem], ?_⟩⟩))))
    rw [decide_eq_true rfl]
    simp (disch := first | omega | (simp only [e_ssz, e_psz, e_hszs, List.length_cons, List.length_nil]; try omega; done)) only [↓reduceIte, go_sem, e5]
    refine effS_call (.inr (.inr (.inr (.inr (.inl ⟨rfl, ub4, _, LP, 5000 + (i : Int), rfl, tO, by omega, fun hm1 sm1 tm1 => ⟨by simp (disch := first | omega | (simp only [e_ssz, e_psz, e_hszs, List.length_cons, List.length_nil]; try omega; done)) only [go_sem], ?_⟩⟩)))))
    have hMl1 := markL_len (5000 + (i : Int)) LP.length
    obtain ⟨M1, hM1⟩ : ∃ M, M = markL (5000 + (i : Int)) LP.length := ⟨_, rfl⟩
    rw [← hM1] at tm1 hMl1
    simp (disch := first | omega | (simp only [e_ssz, e_psz, e_hszs, List.length_cons, List.length_nil]; try omega; done)) only [↓reduceIte, go_sem, e5]
    have t71 := t7.step sm1 (fun b q q' => by have := d7 b q; have := dO b q'; omega)
    have tA1 := tA.step sm1 (fun b q q' => by have := dA b q; have := dO b q'; omega)
    have wy1 := wx1.step sm1 (fun b q q' => by have := d1 b q; have := dO b q'; omega)
    have wy2 := wx2.step sm1 (fun b q q' => by have := d2 b q; have := dO b q'; omega)
    have iW1 := iW.mono sm1.ge
    have sm1t := stt4.trans sm1 (fun b hb q => by have := dO b q; omega)
    refine effS_call (.inr (.inr (.inr (.inr (.inl ⟨rfl, ub4, _, LS, 9000 + (i : Int), rfl, tA1, by omega, fun hm2 sm2 tm2 => ⟨by simp (disch := first | omega | (simp only [e_ssz, e_psz, e_hszs, List.length_cons, List.length_nil]; try omega; done)) only [go_sem], ?_⟩⟩)))))
    have hMl2 := markL_len (9000 + (i : Int)) LS.length
    obtain ⟨M2, hM2⟩ : ∃ M, M = markL (9000 + (i : Int)) LS.length := ⟨_, rfl⟩
    rw [← hM2] at tm2 hMl2
    simp (disch := first | omega | (simp only [e_ssz, e_psz, e_hszs, List.length_cons, List.length_nil]; try omega; done)) only [↓reduceIte, go_sem, e5]
    have t72 := t71.step sm2 (fun b q q' => by have := d7 b q; have := dA b q'; omega)
    have tO2 := tm1.step sm2 (fun b q q' => by have := dO b q; have := dA b q'; omega)
    have wz1 := wy1.step sm2 (fun b q q' => by have := d1 b q; have := dA b q'; omega)
    have wz2 := wy2.step sm2 (fun b q q' => by have := d2 b q; have := dA b q'; omega)
    have iW2 := iW1.mono sm2.ge
    have sm2t := sm1t.trans sm2 (fun b hb q => by have := dA b q; omega)
    have zm2 : hb4.size ≤ hm2.size := by have := sm1.ge.sz; have := sm2.ge.sz; omega
    obtain ⟨uq1, sq1, oq1⟩ := tO2.own (k := h.size) (fun b q => by have := dO b q; omega)
    refine effS_app1q (by simp only []) oq1 (x := (5000 + (i : Int), [], 0, 0, 0, -1)) (by rw [rep_tok]; rfl) rfl rfl (by omega) (by omega) fun aM nM cM uM hM' xM sM hOM => ⟨by simp (disch := first | omega | (simp only [e_ssz, e_psz, e_hszs, List.length_cons, List.length_nil]; try omega; done)) only [go_sem], ?_⟩
    obtain ⟨MO2, hMO2⟩ : ∃ x, x = M1 ++ [((5000 + (i : Int), [], 0, 0, 0, -1) : Tok)] := ⟨_, rfl⟩
    rw [← hMO2] at xM
    have hMO2l : MO2.length = LP.length + 1 := by rw [hMO2, List.length_append, hMl1]; rfl
    obtain ⟨_, _, hmeM, -, -⟩ := xM.sl
    simp only [Value.slice.injEq] at hmeM
    obtain ⟨rfl, rfl, rfl⟩ := hmeM
    have iO := oq1.isSl.mono sM.ge
    have sqM := sq1.trans sM (fun b _ q => q)
    have t73 := t72.step sqM (fun b q q' => by have := d7 b q; have := dO b q'; omega)
    have tA3 := tm2.step sqM (fun b q q' => by have := dA b q; have := dO b q'; omega)
    have wu1 := wz1.step sqM (fun b q q' => by have := d1 b q; have := dO b q'; omega)
    have wu2 := wz2.step sqM (fun b q q' => by have := d2 b q; have := dO b q'; omega)
    have iW3 := iW2.mono sqM.ge
    have sMt := sm2t.trans sqM (fun b hb q => by have := dO b q; omega)
    have zM : hm2.size ≤ hM'.size := sqM.ge.sz
    simp (disch := first | omega | (simp only [e_ssz, e_psz, e_hszs, List.length_cons, List.length_nil]; try omega; done)) only [↓reduceIte, go_sem, e5]
    obtain ⟨uq2, sq2, oq2⟩ := tA3.own (k := h.size) (fun b q => by have := dA b q; omega)
    refine effS_app1q (by simp only []) oq2 (x := (9000 + (i : Int), [], 0, 0, 0, -1)) (by rw [rep_tok]; rfl) rfl rfl (by omega) (by omega) fun aL nL cL uL hL' xL sL hOL => ⟨by simp (disch := first | omega | (simp only [e_ssz, e_psz, e_hszs, List.length_cons, List.length_nil]; try omega; done)) only [go_sem], ?_⟩
    obtain ⟨MA2, hMA2⟩ : ∃ x, x = M2 ++ [((9000 + (i : Int), [], 0, 0, 0, -1) : Tok)] := ⟨_, rfl⟩
    rw [← hMA2] at xL
    have hMA2l : MA2.length = LS.length + 1 := by rw [hMA2, List.length_append, hMl2]; rfl
    obtain ⟨_, _, hmeL, -, -⟩ := xL.sl
    simp only [Value.slice.injEq] at hmeL
    obtain ⟨rfl, rfl, rfl⟩ := hmeL
    have iA := oq2.isSl.mono sL.ge
    have sqL := sq2.trans sL (fun b _ q => q)
    have iO2 := iO.mono sqL.ge
    have iM2 := xM.isSl.mono sqL.ge
    have t74 := t73.step sqL (fun b q q' => by have := d7 b q; have := dA b q'; omega)
    have wv1 := wu1.step sqL (fun b q q' => by have := d1 b q; have := dA b q'; omega)
    have wv2 := wu2.step sqL (fun b q q' => by have := d2 b q; have := dA b q'; omega)
    have iW4 := iW3.mono sqL.ge
    have sLt := sMt.trans sqL (fun b hb q => by have := dA b q; omega)
    have zL : hM'.size ≤ hL'.size := sqL.ge.sz
    simp (disch := first | omega | (simp only [e_ssz, e_psz, e_hszs, List.length_cons, List.length_nil]; try omega; done)) only [↓reduceIte, go_sem, e3]
    obtain ⟨ux1, sx1, ix1⟩ := made_lists (u := uL) (h := hL') [M1, MO2, M2, MA2] [.slice xa1 LP.length xc1, .slice aM MO2.length cM, .slice xa2 LS.length xc2, .slice aL MA2.length cL] 22 rfl (show 4 ≤ maxLen by decide) (fun i x hx => by
      match i with
      | 0 => cases hx; exact ⟨_, rfl, iO2⟩
      | 1 => cases hx; exact ⟨_, rfl, iM2⟩
      | 2 => cases hx; exact ⟨_, rfl, iA⟩
      | 3 => cases hx; exact ⟨_, rfl, xL.isSl⟩
      | i + 4 => simp at hx)
    have wa1 := wv1.step0 sx1
    have wa2 := wv2.step0 sx1
    have t75 := t74.step0 sx1
    have sxt := sLt.trans0 sx1
    refine effS_appq wa1 ix1 rfl rfl sxt.ge.sz (by simp only [List.length_cons, List.length_nil]; omega) fun a1 n1 c1 uy hy wb1 sy hOy => ⟨by simp (disch := first | omega | (simp only [e_ssz, e_psz, e_hszs, List.length_cons, List.length_nil]; try omega; done)) only [go_sem], ?_⟩
    have zx : hL'.size ≤ hy.size := by have := sx1.ge.sz; have := sy.ge.sz; omega
    have wb2 := wa2.step sy (fun b q q' => hD b q' q)
    have t76 := t75.step sy (fun b q q' => by have := d7 b q; have := d1 b q'; omega)
    have hDy : ∀ b, OwnB (.slice a1 n1 c1) b → ¬ OwnB v2 b := fun b q q' => (hOy b q).elim (fun z => hD b z q') (fun z => by have := wa2.lt q'; omega)
    have h7y : ∀ b, OwnB (.slice a7 LS.length c7) b → ¬ OwnB (.slice a1 n1 c1) b := fun b q q' => (hOy b q').elim (fun z => by have := d7 b q; have := d1 b z; omega) (fun z => by have := t75.lt q; omega)
    have syt := sxt.trans sy (fun b hb q => by have := wa1.ge q; omega)
    have sxy := sx1.ge.trans sy.ge
    have iO2y := iO2.mono sxy
    have iM2y := iM2.mono sxy
    have iAy := iA.mono sxy
    have xLy := xL.isSl.mono sxy
    have iWy := iW4.mono sxy
    simp (disch := first | omega | (simp only [e_ssz, e_psz, e_hszs, List.length_cons, List.length_nil]; try omega; done)) only [↓reduceIte, go_sem]
    refine effS_call (.inr (.inr (.inr (.inr (.inr ⟨rfl, uy, _, M1, rfl, isSl_all iO2y, by omega, fun uc0 hc0 xc0' sc0 yc0 => ⟨by simp (disch := first | omega | (simp only [e_ssz, e_psz, e_hszs, List.length_cons, List.length_nil]; try omega; done)) only [go_sem], ?_⟩⟩)))))
    have own1c0 := wb1.step0 sc0
    have own2c0 := wb2.step0 sc0
    have t7c0 := t76.step0 sc0
    have stc0 := (syt).trans0 sc0
    have cr0_0 := iO2y.mono sc0.ge
    have cr0_1 := iM2y.mono sc0.ge
    have cr0_2 := iAy.mono sc0.ge
    have cr0_3 := xLy.mono sc0.ge
    have cr0_4 := iWy.mono sc0.ge
    obtain ⟨ae0, ce0, rfl, -, -⟩ := yc0.sl
    simp (disch := first | omega | (simp only [e_ssz, e_psz, e_hszs, List.length_cons, List.length_nil]; try omega; done)) only [↓reduceIte, go_sem]
    refine effS_call (.inr (.inr (.inr (.inr (.inr ⟨rfl, uc0, _, MO2, rfl, isSl_all cr0_1, by omega, fun uc1 hc1 xc1' sc1 yc1 => ⟨by simp (disch := first | omega | (simp only [e_ssz, e_psz, e_hszs, List.length_cons, List.length_nil]; try omega; done)) only [go_sem], ?_⟩⟩)))))
    have own1c1 := own1c0.step0 sc1
    have own2c1 := own2c0.step0 sc1
    have t7c1 := t7c0.step0 sc1
    have stc1 := (stc0).trans0 sc1
    have cr1_0 := cr0_0.mono sc1.ge
    have cr1_1 := cr0_1.mono sc1.ge
    have cr1_2 := cr0_2.mono sc1.ge
    have cr1_3 := cr0_3.mono sc1.ge
    have cr1_4 := cr0_4.mono sc1.ge
    have co1_0 := yc0.mono sc1.ge
    obtain ⟨ae1, ce1, rfl, -, -⟩ := yc1.sl
    simp (disch := first | omega | (simp only [e_ssz, e_psz, e_hszs, List.length_cons, List.length_nil]; try omega; done)) only [↓reduceIte, go_sem]
    refine effS_call (.inr (.inr (.inr (.inr (.inr ⟨rfl, uc1, _, M2, rfl, isSl_all cr1_2, by omega, fun uc2 hc2 xc2' sc2 yc2 => ⟨by simp (disch := first | omega | (simp only [e_ssz, e_psz, e_hszs, List.length_cons, List.length_nil]; try omega; done)) only [go_sem], ?_⟩⟩)))))
    have own1c2 := own1c1.step0 sc2
    have own2c2 := own2c1.step0 sc2
    have t7c2 := t7c1.step0 sc2
    have stc2 := (stc1).trans0 sc2
    have cr2_0 := cr1_0.mono sc2.ge
    have cr2_1 := cr1_1.mono sc2.ge
    have cr2_2 := cr1_2.mono sc2.ge
    have cr2_3 := cr1_3.mono sc2.ge
    have cr2_4 := cr1_4.mono sc2.ge
    have co2_0 := co1_0.mono sc2.ge
    have co2_1 := yc1.mono sc2.ge
    obtain ⟨ae2, ce2, rfl, -, -⟩ := yc2.sl
    simp (disch := first | omega | (simp only [e_ssz, e_psz, e_hszs, List.length_cons, List.length_nil]; try omega; done)) only [↓reduceIte, go_sem]
    refine effS_call (.inr (.inr (.inr (.inr (.inr ⟨rfl, uc2, _, MA2, rfl, isSl_all cr2_3, by omega, fun uc3 hc3 xc3' sc3 yc3 => ⟨by simp (disch := first | omega | (simp only [e_ssz, e_psz, e_hszs, List.length_cons, List.length_nil]; try omega; done)) only [go_sem], ?_⟩⟩)))))
    have own1c3 := own1c2.step0 sc3
    have own2c3 := own2c2.step0 sc3
    have t7c3 := t7c2.step0 sc3
    have stc3 := (stc2).trans0 sc3
    have cr3_0 := cr2_0.mono sc3.ge
    have cr3_1 := cr2_1.mono sc3.ge
    have cr3_2 := cr2_2.mono sc3.ge
    have cr3_3 := cr2_3.mono sc3.ge
    have cr3_4 := cr2_4.mono sc3.ge
    have co3_0 := co2_0.mono sc3.ge
    have co3_1 := co2_1.mono sc3.ge
    have co3_2 := yc2.mono sc3.ge
    obtain ⟨ae3, ce3, rfl, -, -⟩ := yc3.sl
    simp (disch := first | omega | (simp only [e_ssz, e_psz, e_hszs, List.length_cons, List.length_nil]; try omega; done)) only [↓reduceIte, go_sem, e4]
    obtain ⟨uz, sz1, iz1⟩ := made_lists (u := uc3) (h := hc3) [M1, MO2, M2, MA2] [.slice ae0 M1.length ce0, .slice ae1 MO2.length ce1, .slice ae2 M2.length ce2, .slice ae3 MA2.length ce3] 22 rfl (show 4 ≤ maxLen by decide) (fun i x hx => by
      match i with
      | 0 => cases hx; exact ⟨_, rfl, co3_0⟩
      | 1 => cases hx; exact ⟨_, rfl, co3_1⟩
      | 2 => cases hx; exact ⟨_, rfl, co3_2⟩
      | 3 => cases hx; exact ⟨_, rfl, yc3⟩
      | i + 4 => simp at hx)
    have wf1 := own1c3.step0 sz1
    have wf2 := own2c3.step0 sz1
    have t7f := t7c3.step0 sz1
    have sft := stc3.trans0 sz1
    refine effS_appq wf2 iz1 rfl rfl sft.ge.sz (by simp only [List.length_cons, List.length_nil]; omega) fun a2 n2 c2 ug hg wg2 sg hOg => ⟨by simp (disch := first | omega | (simp only [e_ssz, e_psz, e_hszs, List.length_cons, List.length_nil]; try omega; done)) only [go_sem], ?_⟩
    have wg1 := wf1.step sg (fun b q q' => hDy b q q')
    have d7v2 : ∀ b, OwnB (.slice a7 LS.length c7) b → ¬ OwnB v2 b := fun b q q' => by have := d7 b q; have := d2 b q'; omega
    have t7g := t7f.step sg (fun b q q' => d7v2 b q q')
    have hDg : ∀ b, OwnB (.slice a1 n1 c1) b → ¬ OwnB (.slice a2 n2 c2) b := fun b q q' => (hOg b q').elim (fun z => hDy b q z) (fun z => by have := wf1.lt q; omega)
    have h7g : ∀ b, OwnB (.slice a7 LS.length c7) b → h.size ≤ b ∧ ¬ OwnB (.slice a1 n1 c1) b ∧ ¬ OwnB (.slice a2 n2 c2) b := fun b q => ⟨by have := d7 b q; omega, h7y b q, fun q' => (hOg b q').elim (fun z => d7v2 b q z) (fun z => by have := t7f.lt q; omega)⟩
    have sgt := sft.trans sg (fun b hb q => by have := wf2.ge q; omega)
    have iWg := cr3_4.mono (sz1.ge.trans sg.ge)
    simp (disch := first | omega | (simp only [e_ssz, e_psz, e_hszs, List.length_cons, List.length_nil]; try omega; done)) only [↓reduceIte, go_sem]
    refine effS_call (.inr (.inr (.inr (.inl ⟨rfl, hsz hg, _, _, LS, LS, rfl, t7g.isSl, isSl_all iWg, ⟨by simp (disch := first | omega | (simp only [e_ssz, e_psz, e_hszs, List.length_cons, List.length_nil]; try omega; done)) only [go_sem], ?_⟩⟩))))
    rw [decide_eq_true rfl]
    simp (disch := first | omega | (simp only [e_ssz, e_psz, e_hszs, List.length_cons, List.length_nil]; try omega; done)) only [↓reduceIte, go_sem]
    refine hR _ _ ?_
    rw [hM]
    refine ⟨ug, _, _, _, Ls ++ [M1, MO2, M2, MA2], LS, ?_, ?_, ?_, ?_, ?_, sgt, wg1, wg2, hDg, t7g, h7g, hLSl, by simp only [List.length_append, List.length_cons, List.length_nil]; omega, fun x hx => ?_⟩
    rotate_right
    · rw [List.mem_append] at hx
      rcases hx with hx | hx
      · exact hLx x hx
      · simp only [List.mem_cons, List.not_mem_nil, or_false] at hx
        rcases hx with rfl | rfl | rfl | rfl <;> omega
    all_goals simp [upd, e0, e5]
theorem LexAll_hc {v : Value} {l : List OpT} {h : H} (hv : IsSl (hsz h) h v l) (hl : l.length ≤ 1048576) (hg : ∀ o ∈ l, Good2 o) (hG : LxG (hsz h) h) : HCX Tryd.prog 14 [v] h (fun v h' => v = .bool true ∧ Ext0 h h') fun _ _ => False :=
  LexAll_ok ⟨hsz h, v, l, rfl, hv, hl, hg, hG, fun u' h' st => ⟨rfl, st.ext⟩⟩
end Go.Proofs.YtbkpmdgeeolifaaDoor
