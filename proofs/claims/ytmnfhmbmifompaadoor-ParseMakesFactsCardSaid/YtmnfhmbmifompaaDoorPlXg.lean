/- The maker's atoms, walked. -/
import Derived.Test.YtmnfhmbmifompaaDoorPlXf
namespace Go.Ev
def sBk : S → S | .block _ a => a | s => s
end Go.Ev
namespace Go.Proofs.YtmnfhmbmifompaaDoor
open Go Go.Ev Edict
def maR : S := sS (sBk (sF (sS plMAtom_L1)))
def maA : S := sS (sS maR)
theorem maL_cut : plMAtom_L1 = .seq (sF plMAtom_L1) (.seq (.block 1 (.seq (sF (sBk (sF (sS plMAtom_L1)))) maR)) (sS (sS plMAtom_L1))) := rfl
theorem maR_cut : maR = .seq (sF maR) (.seq (sF (sS maR)) maA) := rfl
theorem rep_TT {u : U} {h : H} {x : TT} {cs : List Value} : Rep.rep u h x cs = (cs = [.int .i64 x.1, .int .i64 x.2]) := by simp [rep_prod, rep_int]
theorem sz_TT : Rep.sz TT = 2 := rfl
theorem rep_tm {u : U} {h : H} {x : TermT} : Rep.rep u h x [.int .i64 x.1, .int .i64 x.2.1, str x.2.2.1, .int .i64 x.2.2.2] := by rw [rep_term]; rfl
def G_matom : Ctr := fun f vs h K _ => (f = 45 ∧ C_mod vs h K) ∨ (f = 64 ∧ C_nmS nameS vs h K) ∨ (f = 26 ∧ C_put vs h K) ∨ (f = 65 ∧ C_mterm vs h K)
theorem G_matom_ok : GOk Tryd.prog G_matom := by
  rintro f vs h K KP (⟨rfl, hC⟩ | ⟨rfl, hC⟩ | ⟨rfl, hC⟩ | ⟨rfl, hC⟩)
  · exact plMod_ok hC
  · exact plNameOf_ok hC
  · exact plPut_ok hC
  · exact plMTerm_ok hC
/-- The term is put and stands behind the others. -/
theorem maA_ok {Q : Post} {σ : Env} {u : U} {h : H} {b o7 o9 z : Nat} {gs : List Int} {gv w : Value} {st : MS} {t : TT} {p : List UInt8} {off : Int} {l : List TermT} (e0 : σ 0 = .pointer (some ⟨b, 0, none⟩)) (e7 : σ 7 = .pointer (some ⟨o7, 0, none⟩)) (e9 : σ 9 = .pointer (some ⟨o9, 0, none⟩))
    (hM : MkB u h b gs gv st) (hP : PowG u h) (ht : OkI t.2) (B7 : Blk u h o7 [str p, w, .int .i64 off]) (B9 : Blk u h o9 [.int .i64 t.1, .int .i64 t.2]) (ow : Own z u h w l) (hwb : ∀ c, OwnB w c → c ≠ b ∧ c ≠ o7) (h7b : o7 ≠ b) (h9b : o9 ≠ b) (hl : l.length ≤ 1000) (hz : z ≤ h.size)
    (hQ : ∀ (σ' : Env) (u' : U) (h' : H) (w' : Value), (∀ i, i < 9 → σ' i = σ i) → Step (fun c => c = b ∨ c = o7 ∨ OwnB w c) u h u' h' → Blk u' h' b [str (mkTerm gs t st).2.1, gv, .int .i64 ((mkTerm gs t st).2.2 : Nat)] → Blk u' h' o7 [str p, w', .int .i64 off] → Own z u' h' w' (l ++ [(mkTerm gs t st).1]) →
      (∀ c, OwnB w' c → OwnB w c ∨ h.size ≤ c) → Q .normal σ' h') : wpS G_matom maA Q σ h := by
  have hm := mlen'
  have B71 := B7.1
  have B91 := B9.1
  obtain ⟨wa, wc, rfl, n1, n2⟩ := ow.sl
  simp (disch := first | omega | (simp only [e_ssz, e_psz, e_hszs, List.length_cons, List.length_nil]; try omega; done)) only [↓reduceIte, go_sem, maA, maR, sS, sF, sBk, plMAtom_L1, e0, e7, e9, B7.at, B7.2.1, B9.at, B9.2.1]
  refine effS_call (.inr (.inr (.inr ⟨rfl, u, b, gs, gv, st, t, rfl, hM, ht, hP, fun u2 h2 s2 W2 => ⟨?_, ?_⟩⟩)))
  · have D7 := B7.step s2 h7b
    have D71 := D7.1
    simp (disch := first | omega | (simp only [e_ssz, e_psz, e_hszs, List.length_cons, List.length_nil]; try omega; done)) only [↓reduceIte, go_sem, e7, D7.at, D7.2.1, B7.at]
  have D7 := B7.step s2 h7b
  have D71 := D7.1
  have ow2 := ow.step s2 (fun c qc q => (hwb c qc).1 q)
  obtain ⟨x, hx⟩ : ∃ x, x = (mkTerm gs t st).1 := ⟨_, rfl⟩
  obtain ⟨st', hst'⟩ : ∃ st', st' = (mkTerm gs t st).2 := ⟨_, rfl⟩
  rw [← hx, ← hst'] at hQ
  rw [← hst'] at W2
  rw [← hx]
  have zz := s2.ge.sz
  simp (disch := first | omega | (simp only [e_ssz, e_psz, e_hszs, List.length_cons, List.length_nil]; try omega; done)) only [↓reduceIte, go_sem, e7, D7.at, D7.2.1]
  refine effS_app1q (by simp only []) ow2 (x := x) rep_tm rfl rfl (by omega) (by omega) fun a3 n3 c3 u3 h3 o3 s3 hO3 => ⟨by simp (disch := first | omega | (simp only [e_ssz, e_psz, e_hszs, List.length_cons, List.length_nil]; try omega; done)) only [go_sem], ?_⟩
  obtain ⟨_, _, hme, m31, m32⟩ := o3.sl
  simp only [Value.slice.injEq] at hme
  obtain ⟨rfl, rfl, rfl⟩ := hme
  obtain ⟨l2, hl2⟩ : ∃ l2, l2 = l ++ [x] := ⟨_, rfl⟩
  rw [← hl2] at o3 hO3 m31 ⊢
  have D73 := D7.step s3 (fun q => (hwb _ q).2 rfl)
  have W3 := W2.step s3 (fun q => (hwb _ q).1 rfl)
  have hO3' : ∀ c, OwnB (.slice a3 l2.length c3) c → OwnB (.slice wa l.length wc) c ∨ h.size ≤ c := fun c q => (hO3 c q).elim .inl (fun q => .inr (by omega))
  have hn7 : ∀ c, OwnB (.slice a3 l2.length c3) c → c ≠ o7 := fun c q => (hO3' c q).elim (fun q => (hwb c q).2) (fun q => by omega)
  have s4 := Step.set (S := fun c => c = o7) u3 h3 (b := o7) (o := 1) (.slice a3 l2.length c3) rfl (by rw [D73.2.2.2.1]; exact Nat.zero_le _)
  have D74 := D73.set (i := 1) (v := .slice a3 l2.length c3) (by simp)
  obtain ⟨h4, hh4⟩ : ∃ h4, h4 = hset h3 o7 1 (.slice a3 l2.length c3) := ⟨_, rfl⟩
  rw [← hh4] at D74 s4
  simp only [List.set_cons_succ, List.set_cons_zero] at D74
  have D731 := D73.1
  simp (disch := first | omega | (simp only [e_ssz, e_psz, e_hszs, List.length_cons, List.length_nil]; try omega; done)) only [↓reduceIte, go_sem, e7, D73.2.1, D73.2.2.1, ← hh4]
  refine hQ _ u3 h4 (.slice a3 l2.length c3) ?_ ?_ (W3.step s4 (fun q => h7b q.symm)) D74 (by rw [← hl2]; exact o3.step s4 (fun c q q' => hn7 c q q')) hO3'
  · intro i hi
    simp [upd, show ¬ i = 47 by omega, show ¬ i = 49 by omega, show ¬ i = 50 by omega, show ¬ i = 51 by omega, show ¬ i = 52 by omega]
  · exact ((s2.mono (fun c _ q => .inl q)).trans s3 (fun c _ q => .inr (.inr q))).trans s4 (fun c _ q => .inr (.inl q))
/-- The next term, grounded where asked. -/
theorem maR_ok {Q : Post} {σ : Env} {u : U} {h : H} {b o4 o7 z k : Nat} {gs : List Int} {gv av w : Value} {st : MS} {pd : Int} {ts : List TT} {gr : Bool} {p : List UInt8} {off : Int} {l : List TermT} (e0 : σ 0 = .pointer (some ⟨b, 0, none⟩)) (e2 : σ 2 = .bool gr) (e4 : σ 4 = .pointer (some ⟨o4, 0, none⟩)) (e7 : σ 7 = .pointer (some ⟨o7, 0, none⟩)) (e8 : σ 8 = .int .i64 (k : Nat))
    (hM : MkB u h b gs gv st) (hP : PowG u h) (hts : ∀ t ∈ ts, OkI t.2) (hk : k < ts.length) (B4 : Blk u h o4 [.int .i64 pd, av]) (ia : IsSl u h av ts) (B7 : Blk u h o7 [str p, w, .int .i64 off]) (ow : Own z u h w l) (hwb : ∀ c, OwnB w c → c ≠ b ∧ c ≠ o7) (h7b : o7 ≠ b) (hl : l.length ≤ 1000) (hz : z ≤ h.size)
    (hQ : ∀ (σ' : Env) (u' : U) (h' : H) (w' : Value), (∀ i, i < 9 → σ' i = σ i) → Step (fun c => c = b ∨ c = o7 ∨ OwnB w c) u h u' h' → Blk u' h' b [str (mkTerm gs (gndT gr (ts.getD k (0, 0))) st).2.1, gv, .int .i64 ((mkTerm gs (gndT gr (ts.getD k (0, 0))) st).2.2 : Nat)] → Blk u' h' o7 [str p, w', .int .i64 off] → Own z u' h' w' (l ++ [(mkTerm gs (gndT gr (ts.getD k (0, 0))) st).1]) →
      (∀ c, OwnB w' c → OwnB w c ∨ h.size ≤ c) → Q .normal σ' h') : wpS G_matom maR Q σ h := by
  have hm := mlen'
  have B41 := B4.1
  have hM1 := hM.1.1
  obtain ⟨aa, ac, rfl, n1, n2⟩ := ia.sl
  obtain ⟨t, hx⟩ : ∃ t, ts[k]? = some t := ⟨ts[k], by simp [hk]⟩
  have hto := hts t (List.mem_of_getElem? hx)
  have hgd : ts.getD k (0, 0) = t := by rw [List.getD_eq_getElem?_getD, hx]; rfl
  rw [hgd] at hQ
  obtain ⟨pb, po, rfl, hpb, hpu, hpz, hpr⟩ := ia.row k t hx
  rw [rep_TT] at hpr
  simp only [sz_TT, hvs_2, List.cons.injEq, and_true] at hpr hpu hpz
  obtain ⟨p0, p1⟩ := hpr
  obtain ⟨h3, h4, u4, hh3, hh4, B3, B5, s4, hz4⟩ := boxed u h [.int .i64 0, .int .i64 0] [.int .i64 t.1, .int .i64 t.2] 125 rfl
  have B31 := B3.1
  have B51 := B5.1
  have hM4 := hM.step0 s4
  have hP4 := hP.mono s4.ge
  have B74 := B7.step0 s4
  have ow4 := ow.step0 s4
  have B71 := B7.1
  obtain ⟨o9, ho9⟩ : ∃ o9, o9 = h.size := ⟨_, rfl⟩
  rw [← ho9] at B3 B31 B5 B51 hh4
  rw [maR_cut]
  cases gr with
  | false =>
    simp (disch := first | omega | (simp only [e_ssz, e_psz, e_hszs, List.length_cons, List.length_nil]; try omega; done)) only [↓reduceIte, go_sem, maR, sS, sF, sBk, plMAtom_L1, e2, e4, e8, hk, B4.at, B4.2.1, p0, p1, ← hh3, ← hh4, B3.2.1, B3.2.2.1, ← ho9]
    refine maA_ok (b := b) (o7 := o7) (o9 := o9) (t := t) (z := z) (by simp [upd, e0]) (by simp [upd, e7]) (by simp [upd]) hM4 hP4 hto B74 B5 ow4 hwb h7b (by omega) hl (by omega) ?_
    intro σ' u' h' w' hσ st' W D O hO
    refine hQ σ' u' h' w' (fun i hi => ?_) ((s4.mono (fun c _ q => q.elim)).trans st' (fun c hc q => q)) W D O (fun c q => (hO c q).elim .inl (fun q => .inr (by omega)))
    rw [hσ i hi]
    simp [upd, show ¬ i = 9 by omega, show ¬ i = 40 by omega, show ¬ i = 41 by omega]
  | true =>
    simp (disch := first | omega | (simp only [e_ssz, e_psz, e_hszs, List.length_cons, List.length_nil]; try omega; done)) only [↓reduceIte, go_sem, maR, sS, sF, sBk, plMAtom_L1, e2, e4, e8, hk, B4.at, B4.2.1, p0, p1, ← hh3, ← hh4, B3.2.1, B3.2.2.1, ← ho9, B5.at, B5.2.1]
    refine effS_call (.inl ⟨rfl, t.1, 3, rfl, by omega, by simp (disch := first | omega | (simp only [e_ssz, e_psz, e_hszs, List.length_cons, List.length_nil]; try omega; done)) only [go_sem], ?_⟩)
    have B6 := B5.set (i := 0) (v := .int .i64 (t.1 % 3)) (by simp)
    have s6 := Step.set (S := fun c => c = o9) u4 h4 (b := o9) (o := 0) (.int .i64 (t.1 % 3)) rfl (by rw [B5.2.2.2.1]; exact Nat.zero_le _)
    obtain ⟨h6, hh6⟩ : ∃ h6, h6 = hset h4 o9 0 (.int .i64 (t.1 % 3)) := ⟨_, rfl⟩
    rw [← hh6] at B6 s6
    simp only [List.set_cons_zero] at B6
    simp (disch := first | omega | (simp only [e_ssz, e_psz, e_hszs, List.length_cons, List.length_nil]; try omega; done)) only [↓reduceIte, go_sem, B5.2.1, B5.2.2.1, ← hh6]
    refine maA_ok (b := b) (o7 := o7) (o9 := o9) (t := (t.1 % 3, t.2)) (z := z) (by simp [upd, e0]) (by simp [upd, e7]) (by simp [upd]) (hM4.step s6 (by omega)) (hP4.mono s6.ge) hto (B74.step s6 (by omega)) B6 (ow4.step s6 (fun c qc q => by have := ow.lt qc; omega)) hwb h7b (by omega) hl (by have := s6.ge.sz; omega) ?_
    intro σ' u' h' w' hσ st' W D O hO
    refine hQ σ' u' h' w' (fun i hi => ?_) (((s4.mono (fun c _ q => q.elim)).trans s6 (fun c hc q => by omega)).trans st' (fun c hc q => q)) W D O (fun c q => (hO c q).elim .inl (fun q => .inr (by have := s6.ge.sz; omega)))
    rw [hσ i hi]
    simp [upd, show ¬ i = 9 by omega, show ¬ i = 40 by omega, show ¬ i = 41 by omega, show ¬ i = 43 by omega, show ¬ i = 44 by omega]
def C_matom (vs : List Value) (h : H) (K : Value → H → Prop) : Prop := ∃ (u : U) (b : Nat) (gs : List Int) (gv : Value) (gr : Bool) (a : AA) (av : Value) (st : MS), vs = [.pointer (some ⟨b, 0, none⟩), .agg #[.int .i64 a.1, av], .bool gr] ∧ MkB u h b gs gv st ∧ (st.1.length ≤ 9000000 ∧ st.2 ≤ 900000) ∧ IsSl u h av a.2 ∧ OkAA a ∧ PowG u h ∧
  ∀ u' h' w, Step (fun c => c = b) u h u' h' → Blk u' h' b [str (mkAtom gs gr a st).2.1, gv, .int .i64 ((mkAtom gs gr a st).2.2 : Nat)] → Own h.size u' h' w (mkAtom gs gr a st).1.2.1 → K (.agg #[str (mkAtom gs gr a st).1.1, w, .int .i64 (mkAtom gs gr a st).1.2.2]) h'
theorem argsS_len (gs : List Int) (gr : Bool) (l : List TT) (st : MS) : ∀ i, (argsS gs gr l st i).1.length = i
  | 0 => rfl
  | i + 1 => by show ((argsS gs gr l st i).1 ++ [_]).length = i + 1; rw [List.length_append, argsS_len gs gr l st i]; rfl
theorem plMAtom_ok {vs : List Value} {h : H} {K : Value → H → Prop} {KP : List PanicEntry → H → Prop} (hC : C_matom vs h K) : HCX Tryd.prog 25 vs h K KP := by
  obtain ⟨u, b, gs, gv, gr, ⟨pd, ts⟩, av, st, rfl, hM, ⟨hs1, hs2⟩, ia, ha, hP, hK⟩ := hC
  have ha' : ∀ t ∈ ts, OkI t.2 := ha
  have hm := mlen'
  have hM1 := hM.1.1
  simp only at ia
  refine plMAtom_H G_matom G_matom_ok _ _ _ ?_
  obtain ⟨u2, s2, B4, B6⟩ := two_new (u := u) (h := h) [.int .i64 pd, av] [str [], .slice none 0 0, .int .i64 0] 46 52
  obtain ⟨h2, hh2⟩ : ∃ h2, h2 = (h.push (.cells #[.int .i64 pd, av] 46)).push (.cells #[str [], .slice none 0 0, .int .i64 0] 52) := ⟨_, rfl⟩
  rw [← hh2] at s2 B4 B6
  have B41 := B4.1
  have B61 := B6.1
  obtain ⟨aa, ac, rfl, n1, n2⟩ := ia.sl
  simp (disch := first | omega | (simp only [e_ssz, e_psz, e_hszs, List.length_cons, List.length_nil]; try omega; done)) only [↓reduceIte, go_sem, plMAtom_S, plMAtom_E, ← hh2, B4.at, B4.2.1]
  refine effS_call (.inr (.inl ⟨rfl, u2, pd, rfl, hP.mono s2.ge, fun u3 h3 s3 => ⟨by simp (disch := first | omega | (simp only [e_ssz, e_psz, e_hszs, List.length_cons, List.length_nil]; try omega; done)) only [go_sem], ?_⟩⟩))
  have hnl := (word_shape (name_ok pd)).1
  obtain ⟨nm, hnm⟩ : ∃ nm, nm = nameS pd := ⟨_, rfl⟩
  rw [← hnm] at hnl ⊢
  obtain ⟨h4, h5, u5, hh4, hh5, D7, E7, s5, hz5⟩ := boxed u3 h3 [str [], .slice none 0 0, .int .i64 0] [str nm, .slice none 0 0, .int .i64 0] 52 rfl
  have D71 := D7.1
  have E71 := E7.1
  obtain ⟨o4, ho4⟩ : ∃ o, o = h.size := ⟨_, rfl⟩
  obtain ⟨o6, ho6⟩ : ∃ o, o = o4 + 1 := ⟨_, rfl⟩
  obtain ⟨o7, ho7⟩ : ∃ o, o = h3.size := ⟨_, rfl⟩
  rw [← ho7] at D7 D71 E7 E71 hh5
  rw [← ho4] at B4 B41
  rw [← ho4, ← ho6] at B6 B61
  have z2 : h2.size = h.size + 2 := by rw [hh2]; simp
  have z3 := s3.ge.sz
  have z5 := s5.ge.sz
  have hM5 := ((hM.step0 s2).step0 s3).step0 s5
  simp (disch := first | omega | (simp only [e_ssz, e_psz, e_hszs, List.length_cons, List.length_nil]; try omega; done)) only [↓reduceIte, go_sem, ← hh4, ← ho4, ← ho6, ← ho7, ← hh5, D7.2.1, D7.2.2.1, E7.at, E7.2.1]
  refine effS_call (.inr (.inr (.inl ⟨rfl, u5, b, gs, gv, st, nm, rfl, hM5, by omega, fun h6 s6 W6 => ⟨by simp (disch := first | omega | (simp only [e_ssz, e_psz, e_hszs, List.length_cons, List.length_nil]; try omega; done)) only [go_sem], ?_⟩⟩)))
  obtain ⟨off, hoff⟩ : ∃ off, off = offS gs st := ⟨_, rfl⟩
  obtain ⟨s1, hs1'⟩ : ∃ s1, s1 = putS gs st nm := ⟨_, rfl⟩
  rw [← hoff]
  rw [← hs1'] at W6
  have E76 := E7.step s6 (by omega)
  have E761 := E76.1
  have W7 := E76.set (i := 2) (v := .int .i64 off) (by simp)
  have s7 := Step.set (S := fun c => c = o7) u5 h6 (b := o7) (o := 2) (.int .i64 off) rfl (by rw [E76.2.2.2.1]; exact Nat.zero_le _)
  obtain ⟨h7, hh7⟩ : ∃ h7, h7 = hset h6 o7 2 (.int .i64 off) := ⟨_, rfl⟩
  rw [← hh7] at W7 s7
  simp only [List.set_cons_succ, List.set_cons_zero] at W7
  have W71 := W7.1
  have st7 : Step (fun c => c = b) u h u5 h7 := (((((s2.trans0 s3).trans0 s5).mono (fun c _ q => q.elim)).trans s6 (fun c _ q => q)).trans s7 (fun c hc q => by omega))
  have D4 := ((((B4.step0 s3).step0 s5).step s6 (by omega)).step s7 (by omega))
  have D6 := ((((B6.step0 s3).step0 s5).step s6 (by omega)).step s7 (by omega))
  have Wb := W6.step s7 (by omega)
  have ia7 := ia.mono st7.ge
  have ig7 : IsSl u5 h7 gv gs := hM.2.1.mono st7.ge
  have n1len : s1.1.length ≤ st.1.length + 18 + nm.length ∧ s1.2 ≤ st.2 + 1 := by
    have := put_near (gs := gs) st nm
    rw [hs1']
    exact ⟨by have := this.1; omega, this.2⟩
  simp (disch := first | omega | (simp only [e_ssz, e_psz, e_hszs, List.length_cons, List.length_nil]; try omega; done)) only [↓reduceIte, go_sem, E76.2.1, E76.2.2.1, ← hh7]
  obtain ⟨n, hn⟩ : ∃ n, n = min ts.length 8 := ⟨_, rfl⟩
  have hK' : ∀ u' h' w, Step (fun c => c = b) u h u' h' → Blk u' h' b [str (if ts.length = 0 then (argsS gs gr ts s1 n).2 else putS gs (argsS gs gr ts s1 n).2 [41]).1, gv, .int .i64 ((if ts.length = 0 then (argsS gs gr ts s1 n).2 else putS gs (argsS gs gr ts s1 n).2 [41]).2 : Nat)] → Own h.size u' h' w (argsS gs gr ts s1 n).1 → K (.agg #[str nm, w, .int .i64 off]) h' := by
    intro u' h' w a1 a2 a3
    have := hK u' h' w a1
    unfold mkAtom at this
    simp only at this
    rw [← hnm, ← hs1', ← hn, ← hoff] at this
    exact this a2 a3
  obtain ⟨I, hI⟩ : ∃ I : Nat → Env → H → Prop, I = fun k σ h' => ∃ (u' : U) (w : Value), σ 0 = .pointer (some ⟨b, 0, none⟩) ∧ σ 2 = .bool gr ∧ σ 4 = .pointer (some ⟨o4, 0, none⟩) ∧ σ 6 = .pointer (some ⟨o6, 0, none⟩) ∧ σ 7 = .pointer (some ⟨o7, 0, none⟩) ∧ σ 8 = .int .i64 (k : Nat) ∧ k ≤ n ∧ Step (fun c => c = b) u h u' h' ∧ Blk u' h' o4 [.int .i64 pd, .slice aa ts.length ac] ∧ Blk u' h' o6 [str [], .slice none 0 0, .int .i64 0] ∧ Blk u' h' o7 [str nm, w, .int .i64 off] ∧
      Blk u' h' b [str (argsS gs gr ts s1 k).2.1, gv, .int .i64 ((argsS gs gr ts s1 k).2.2 : Nat)] ∧ Own h.size u' h' w (argsS gs gr ts s1 k).1 ∧ (∀ c, OwnB w c → c ≠ b ∧ c ≠ o7 ∧ c ≠ o4 ∧ c ≠ o6) := ⟨_, rfl⟩
  refine wpS_loop I (fun j => n - j) 0 (by rw [hI]; exact ⟨u5, _, by simp [upd], by simp [upd], by simp [upd], by simp [upd], by simp [upd], by simp [upd], by omega, st7, D4, D6, W7, Wb, .nil _ _ _, fun c ⟨_, _, _, q⟩ => (by cases q)⟩) ?_
  clear B4 B6 D4 D6 W7 Wb D7 E7 E76 W6 hh2 hh4 hh5 hh7 s2 s3 s5 s6 s7 st7 hM5 ia7 ig7 W71 E761 E71 D71 hK
  intro k σ h' hy
  rw [hI] at hy
  obtain ⟨u', w, e0, e2, e4, e6, e7, e8, hk, st', B4, B6, B7, Bb, ow, hwb⟩ := hy
  have hnear := args_near (gs := gs) (gr := gr) (st := s1) ha' k
  have hal := argsS_len gs gr ts s1 k
  obtain ⟨A, hA⟩ : ∃ A, A = argsS gs gr ts s1 k := ⟨_, rfl⟩
  rw [← hA] at Bb ow hnear hal
  have hn1 := hnear.1
  have hn2 := hnear.2
  obtain ⟨wa, wc, rfl, q1, q2⟩ := ow.sl
  have B41 := B4.1
  have B61 := B6.1
  have B71 := B7.1
  have Bb1 := Bb.1
  have zz := st'.ge.sz
  have iak := ia.mono st'.ge
  have igk := hM.2.1.mono st'.ge
  have hMk : MkB u' h' b gs gv A.2 := ⟨Bb, igk, by omega, by omega⟩
  rw [maL_cut]
  by_cases hlt : k < n
  case neg =>
    obtain rfl : k = n := by omega
    rw [← hA] at hK'
    -- the last store and the answer
    have fin : ∀ (u8 : U) (h8 : H), Step (fun c => c = b) u' h' u8 h8 → Blk u8 h8 b [str (if ts.length = 0 then A.2 else putS gs A.2 [41]).1, gv, .int .i64 ((if ts.length = 0 then A.2 else putS gs A.2 [41]).2 : Nat)] →
        Blk u8 h8 o7 [str nm, .slice wa A.1.length wc, .int .i64 off] ∧ Blk u8 h8 o6 [str [], .slice none 0 0, .int .i64 0] ∧ ∃ h9, h9 = hsets h8 o6 0 [str nm, .slice wa A.1.length wc, .int .i64 off] ∧ Blk u8 h9 o6 [str nm, .slice wa A.1.length wc, .int .i64 off] ∧ K (.agg #[str nm, .slice wa A.1.length wc, .int .i64 off]) h9 := by
      intro u8 h8 s8 Wb8
      have D7 := B7.step s8 (by omega)
      have D6 := B6.step s8 (by omega)
      have W9 := D6.sets (l := [str nm, .slice wa A.1.length wc, .int .i64 off]) rfl
      have s9 := Step.sets (S := fun c => c = o6) u8 h8 (b := o6) (o := 0) [str nm, .slice wa A.1.length wc, .int .i64 off] rfl (by rw [D6.2.2.2.1]; exact Nat.zero_le _) (by rw [D6.2.1]; exact Nat.le_refl _)
      exact ⟨D7, D6, _, rfl, W9, hK' u8 _ _ ((st'.trans s8 (fun c _ q => q)).trans s9 (fun c hc q => by omega)) (Wb8.step s9 (by omega)) ((ow.step s8 (fun c qc q => (hwb c qc).1 q)).step s9 (fun c qc q => (hwb c qc).2.2.2 q))⟩
    by_cases h0 : ts.length = 0
    · have hk0 : k = 0 := by omega
      rw [if_pos h0] at fin
      obtain ⟨D7, D6, h9, hh9, W9, hKf⟩ := fin u' h' (Step.refl _ _ _) Bb
      have W91 := W9.1
      have hAl : A.1.length = 0 := by omega
      simp (disch := first | omega | (simp only [e_ssz, e_psz, e_hszs, List.length_cons, List.length_nil]; try omega; done)) only [↓reduceIte, go_sem, sF, sS, sBk, plMAtom_L1, e4, e6, e7, e8, B4.at, B4.2.1, eq_false (show ¬ (k : Int) < (ts.length : Nat) by omega), B7.at, B7.2.1, eq_false (show ¬ (0 : Int) < (A.1.length : Nat) by omega), B6.2.1, B6.2.2.1, ← hh9, W9.at, W9.2.1]
      exact hKf
    · rw [if_neg h0] at fin
      have hkp : 0 < k := by omega
      have hex : ¬ ((k : Int) < (ts.length : Nat) ∧ (k : Int) < 8) := by omega
      by_cases hkt : k < ts.length
      · simp (disch := first | omega | (simp only [e_ssz, e_psz, e_hszs, List.length_cons, List.length_nil]; try omega; done)) only [↓reduceIte, go_sem, sF, sS, sBk, plMAtom_L1, e0, e4, e7, e8, B4.at, B4.2.1, hkt, eq_false (show ¬ (k : Int) < 8 by omega), B7.at, B7.2.1, eq_true (show (0 : Int) < (A.1.length : Nat) by omega)]
        refine effS_call (.inr (.inr (.inl ⟨rfl, u', b, gs, gv, A.2, [41], rfl, hMk, by decide, fun h8 s8 W8 => ⟨by simp (disch := first | omega | (simp only [e_ssz, e_psz, e_hszs, List.length_cons, List.length_nil]; try omega; done)) only [go_sem], ?_⟩⟩)))
        obtain ⟨D7, D6, h9, hh9, W9, hKf⟩ := fin u' h8 s8 W8
        have W91 := W9.1
        have D71 := D7.1
        simp (disch := first | omega | (simp only [e_ssz, e_psz, e_hszs, List.length_cons, List.length_nil]; try omega; done)) only [↓reduceIte, go_sem, e6, e7, D7.at, D7.2.1, D6.2.1, D6.2.2.1, ← hh9, W9.at, W9.2.1]
        exact hKf
      · simp (disch := first | omega | (simp only [e_ssz, e_psz, e_hszs, List.length_cons, List.length_nil]; try omega; done)) only [↓reduceIte, go_sem, sF, sS, sBk, plMAtom_L1, e0, e4, e7, e8, B4.at, B4.2.1, eq_false (show ¬ (k : Int) < (ts.length : Nat) by omega), B7.at, B7.2.1, eq_true (show (0 : Int) < (A.1.length : Nat) by omega)]
        refine effS_call (.inr (.inr (.inl ⟨rfl, u', b, gs, gv, A.2, [41], rfl, hMk, by decide, fun h8 s8 W8 => ⟨by simp (disch := first | omega | (simp only [e_ssz, e_psz, e_hszs, List.length_cons, List.length_nil]; try omega; done)) only [go_sem], ?_⟩⟩)))
        obtain ⟨D7, D6, h9, hh9, W9, hKf⟩ := fin u' h8 s8 W8
        have W91 := W9.1
        have D71 := D7.1
        simp (disch := first | omega | (simp only [e_ssz, e_psz, e_hszs, List.length_cons, List.length_nil]; try omega; done)) only [↓reduceIte, go_sem, e6, e7, D7.at, D7.2.1, D6.2.1, D6.2.2.1, ← hh9, W9.at, W9.2.1]
        exact hKf
  have hk8 : k < 8 := by omega
  have hkt : k < ts.length := by omega
  obtain ⟨sp, hsp⟩ : ∃ sp : List UInt8, sp = if k = 0 then [40] else [44] := ⟨_, rfl⟩
  have hspl : sp.length = 1 := by rw [hsp]; split <;> rfl
  have hnext : argsS gs gr ts s1 (k + 1) = (A.1 ++ [(mkTerm gs (gndT gr (ts.getD k (0, 0))) (putS gs A.2 sp)).1], (mkTerm gs (gndT gr (ts.getD k (0, 0))) (putS gs A.2 sp)).2) := by rw [hsp, hA]; rfl
  have hpn := put_near (gs := gs) A.2 sp
  have hp1 := hpn.1
  have hp2 := hpn.2
  -- behind the bracket or the comma
  have rest : ∀ (Q : Post) (σ2 : Env) (h2 : H), (∀ i, i < 9 → σ2 i = σ i) → Step (fun c => c = b) u' h' u' h2 → Blk u' h2 b [str (putS gs A.2 sp).1, gv, .int .i64 ((putS gs A.2 sp).2 : Nat)] →
      (∀ σ3 h3, σ3 8 = .int .i64 (k : Nat) → (∀ j : Int, I (k + 1) (upd (upd σ3 29 (.int .i64 j)) 8 (.int .i64 ((k + 1 : Nat) : Int))) h3) → Q .normal σ3 h3) → wpS G_matom maR Q σ2 h2 := by
    intro Q σ2 h2 hσ2 s2 Wb2 hQ
    refine maR_ok (b := b) (o4 := o4) (o7 := o7) (z := h.size) (k := k) (ts := ts) (gr := gr) (by rw [hσ2 0 (by omega)]; exact e0) (by rw [hσ2 2 (by omega)]; exact e2) (by rw [hσ2 4 (by omega)]; exact e4) (by rw [hσ2 7 (by omega)]; exact e7) (by rw [hσ2 8 (by omega)]; exact e8)
      ⟨Wb2, igk.mono s2.ge, by omega, by omega⟩ ((hP.mono st'.ge).mono s2.ge) ha' hkt (B4.step s2 (by omega)) (iak.mono s2.ge) (B7.step s2 (by omega)) (ow.step s2 (fun c qc q => (hwb c qc).1 q)) (fun c qc => ⟨(hwb c qc).1, (hwb c qc).2.1⟩) (by omega) (by omega) (by have := s2.ge.sz; omega) ?_
    intro σ3 u3 h3 w3 hσ3 s3 W3 D3 O3 hO3
    refine hQ σ3 h3 (by rw [hσ3 8 (by omega), hσ2 8 (by omega)]; exact e8) (fun j => ?_)
    rw [hI]
    have hs3 : ∀ c, c < h'.size → (c = o4 ∨ c = o6) → ¬ (c = b ∨ c = o7 ∨ OwnB (.slice wa A.1.length wc) c) := by
      rintro c - (rfl | rfl) (q | q | q)
      · omega
      · omega
      · exact (hwb _ q).2.2.1 rfl
      · omega
      · omega
      · exact (hwb _ q).2.2.2 rfl
    have hz2 := s2.ge.sz
    refine ⟨u3, w3, by simp [upd, hσ3 0 (by omega), hσ2 0 (by omega), e0], by simp [upd, hσ3 2 (by omega), hσ2 2 (by omega), e2], by simp [upd, hσ3 4 (by omega), hσ2 4 (by omega), e4], by simp [upd, hσ3 6 (by omega), hσ2 6 (by omega), e6], by simp [upd, hσ3 7 (by omega), hσ2 7 (by omega), e7], by simp [upd], hlt,
      (st'.trans s2 (fun c _ q => q)).trans s3 (fun c hc q => ?_), (B4.step s2 (by omega)).step s3 (hs3 _ B41 (.inl rfl)), (B6.step s2 (by omega)).step s3 (hs3 _ B61 (.inr rfl)), D3, by rw [hnext]; exact W3, by rw [hnext]; exact O3, fun c q => ?_⟩
    · rcases q with q | q | q
      · exact q
      · omega
      · have := ow.ge q; omega
    · rcases hO3 c q with q | q
      · exact hwb c q
      · omega
  by_cases hk0 : k = 0
  · have hsp1 : sp = [40] := by rw [hsp, if_pos hk0]
    rw [hsp1] at rest
    simp (disch := first | omega | (simp only [e_ssz, e_psz, e_hszs, List.length_cons, List.length_nil]; try omega; done)) only [↓reduceIte, go_sem, sF, sS, sBk, plMAtom_L1, e0, e4, e8, B4.at, B4.2.1, hkt, eq_true (show (k : Int) < 8 by omega), eq_true (show (k : Int) = 0 by omega)]
    refine effS_call (.inr (.inr (.inl ⟨rfl, u', b, gs, gv, A.2, [40], rfl, hMk, by decide, fun h8 s8 W8 => ⟨by simp (disch := first | omega | (simp only [e_ssz, e_psz, e_hszs, List.length_cons, List.length_nil]; try omega; done)) only [go_sem], ?_⟩⟩)))
    simp (disch := first | omega | (simp only [e_ssz, e_psz, e_hszs, List.length_cons, List.length_nil]; try omega; done)) only [go_sem]
    refine rest _ _ h8 (fun i hi => by simp [upd, show ¬ i = 27 by omega, show ¬ i = 31 by omega, show ¬ i = 33 by omega]) s8 W8 ?_
    intro σ3 h3 e83 hI3
    simp (disch := first | omega | (simp only [e_ssz, e_psz, e_hszs, List.length_cons, List.length_nil]; try omega; done)) only [↓reduceIte, go_sem, e83]
    exact ⟨k + 1, hI3 _, by omega⟩
  · have hsp1 : sp = [44] := by rw [hsp, if_neg hk0]
    rw [hsp1] at rest
    simp (disch := first | omega | (simp only [e_ssz, e_psz, e_hszs, List.length_cons, List.length_nil]; try omega; done)) only [↓reduceIte, go_sem, sF, sS, sBk, plMAtom_L1, e0, e4, e8, B4.at, B4.2.1, hkt, eq_true (show (k : Int) < 8 by omega), eq_false (show ¬ (k : Int) = 0 by omega)]
    refine effS_call (.inr (.inr (.inl ⟨rfl, u', b, gs, gv, A.2, [44], rfl, hMk, by decide, fun h8 s8 W8 => ⟨by simp (disch := first | omega | (simp only [e_ssz, e_psz, e_hszs, List.length_cons, List.length_nil]; try omega; done)) only [go_sem], ?_⟩⟩)))
    simp (disch := first | omega | (simp only [e_ssz, e_psz, e_hszs, List.length_cons, List.length_nil]; try omega; done)) only [go_sem]
    refine rest _ _ h8 (fun i hi => by simp [upd, show ¬ i = 27 by omega, show ¬ i = 31 by omega, show ¬ i = 35 by omega]) s8 W8 ?_
    intro σ3 h3 e83 hI3
    simp (disch := first | omega | (simp only [e_ssz, e_psz, e_hszs, List.length_cons, List.length_nil]; try omega; done)) only [↓reduceIte, go_sem, e83]
    exact ⟨k + 1, hI3 _, by omega⟩
end Go.Proofs.YtmnfhmbmifompaaDoor
