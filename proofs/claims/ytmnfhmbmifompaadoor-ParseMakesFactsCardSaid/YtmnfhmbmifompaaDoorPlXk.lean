/- The law ParseMakesFacts. -/
import Derived.Test.YtmnfhmbmifompaaDoorPlXh
import Derived.Test.YtmnfhmbmifompaaDoorPlXb
import Derived.Test.YtmnfhmbmifompaaDoorPlX4
namespace Edict
theorem const_map (l : List TermT) : l.map constD = l.map (fun t => (t.1, t.2.1, t.2.2.1)) := rfl
/-- An atom made behind a text, read alone: the same fact. -/
theorem alone_made {gs : List Int} {a : AA} (ha : OkAA a) (x : List UInt8) (k : Nat) : ∃ p : List UInt8, (mkAtom gs true a (x, k)).2.1 = x ++ p ∧ p.length ≤ 65536 ∧ (resOneD p).2 = (0, 0) ∧ (resOneD p).1.1 = (mkAtom gs true a (x, k)).1.1 ∧ (resOneD p).1.2.1.map constD = (mkAtom gs true a (x, k)).1.2.1.map constD := by
  obtain ⟨h1, h2, h3⟩ := atom_move (gs := gs) x true a k
  have hn := (atom_near (gs := gs) (gr := true) (st := ([], k)) ha).1
  simp only [List.length_nil] at hn
  refine ⟨(mkAtom gs true a ([], k)).2.1, by rw [h1], by omega, ?_⟩
  have ho := one_made (gs := gs) ha (k := k) (by omega)
  unfold resOneD
  rw [ho]
  exact ⟨rfl, h2.symm, by rw [const_map, const_map]; exact h3.symm⟩
end Edict
namespace Go.Proofs.YtmnfhmbmifompaaDoor
open Go Go.Ev Edict
def G_MakesF : Ctr := fun f vs h K _ => (f = 26 ∧ C_put vs h K) ∨ (f = 25 ∧ C_matom vs h K) ∨ (f = 19 ∧ C_pOneU vs h K) ∨ (f = 22 ∧ C_pFacsU vs h K) ∨ (f = 42 ∧ C_factIs vs h K) ∨ (f = 24 ∧ C_sAtoms vs h K) ∨ (f = 29 ∧ C_taken vs h K)
theorem G_MakesF_ok : GOk Tryd.prog G_MakesF := by
  rintro f vs h K KP (⟨rfl, hC⟩ | ⟨rfl, hC⟩ | ⟨rfl, hC⟩ | ⟨rfl, hC⟩ | ⟨rfl, hC⟩ | ⟨rfl, hC⟩ | ⟨rfl, hC⟩)
  · exact plPut_ok hC
  · exact plMAtom_ok hC
  · exact psOneU_ok hC
  · exact psFacsU_ok hC
  · exact plFactIs_ok hC
  · exact plSameAtoms_ok hC
  · exact plTaken_ok hC
def pfB : S := sBk (sF (sS ParseMakesFacts_L1))
def pfC : S := sS (sS pfB)
def pfD : S := sS pfC
def pfE : S := sS pfD
theorem pfL_cut : ParseMakesFacts_L1 = .seq (sF ParseMakesFacts_L1) (.seq (.block 1 (.seq (sF pfB) (.seq (sF (sS pfB)) pfC))) (sS (sS ParseMakesFacts_L1))) := rfl
theorem pfC_cut : pfC = .seq (sF pfC) pfD := rfl
theorem pfD_cut : pfD = .seq (sF pfD) pfE := rfl
theorem pfE_ok {Q : Post} {σ : Env} {u : U} {h : H} {b o7 z : Nat} {gs : List Int} {gv w v : Value} {st : MS} {x : AtomT} {l : List AtomT} (e3 : σ 3 = .pointer (some ⟨b, 0, none⟩)) (e4 : σ 4 = w) (e7 : σ 7 = .pointer (some ⟨o7, 0, none⟩))
    (hM : MkB u h b gs gv st) (B7 : Blk u h o7 [str x.1, v, .int .i64 x.2.2]) (h7b : o7 ≠ b) (iv : IsSl u h v x.2.1) (ow : Own z u h w l) (hwb : ∀ c, OwnB w c → c ≠ b) (hl : l.length ≤ 1000) (hz : z ≤ h.size)
    (hQ : ∀ (σ' : Env) (u' : U) (h' : H) (w' : Value), (∀ i, i < 6 → i ≠ 4 → σ' i = σ i) → σ' 4 = w' → Step (fun c => c = b ∨ OwnB w c) u h u' h' → Blk u' h' b [str (putS gs st [46]).1, gv, .int .i64 ((putS gs st [46]).2 : Nat)] → Own z u' h' w' (l ++ [x]) → (∀ c, OwnB w' c → OwnB w c ∨ h.size ≤ c) → Q .normal σ' h') : wpS G_MakesF pfE Q σ h := by
  have hm := mlen'
  have B71 := B7.1
  obtain ⟨wa, wc, rfl, n1, n2⟩ := ow.sl
  obtain ⟨va, vc, rfl, -, -⟩ := iv.sl
  simp (disch := first | omega | (simp only [e_ssz, e_psz, e_hszs, List.length_cons, List.length_nil]; try omega; done)) only [go_sem, pfE, pfD, pfC, pfB, sS, sF, sBk, ParseMakesFacts_L1, e3]
  refine effS_call (.inl ⟨rfl, u, b, gs, gv, st, [46], rfl, hM, by decide, fun h2 s2 W2 => ⟨by simp (disch := first | omega | (simp only [e_ssz, e_psz, e_hszs, List.length_cons, List.length_nil]; try omega; done)) only [go_sem], ?_⟩⟩)
  have D7 := B7.step s2 h7b
  have D71 := D7.1
  have ow2 := ow.step s2 (fun c qc q => hwb c qc q)
  have z2 := s2.ge.sz
  have hxr : Rep.rep u h2 x [str x.1, .slice va x.2.1.length vc, .int .i64 x.2.2] := by rw [rep_atom]; exact ⟨_, rfl, iv.mono s2.ge⟩
  simp (disch := first | omega | (simp only [e_ssz, e_psz, e_hszs, List.length_cons, List.length_nil]; try omega; done)) only [↓reduceIte, go_sem, e4, e7, D7.at, D7.2.1]
  refine effS_app1q rfl ow2 hxr rfl rfl (by omega) (by omega) fun a3 n3 c3 u3 h3 o3 s3 hO3 => ⟨by simp (disch := first | omega | (simp only [e_ssz, e_psz, e_hszs, List.length_cons, List.length_nil]; try omega; done)) only [go_sem], ?_⟩
  obtain ⟨_, _, hme, m31, m32⟩ := o3.sl
  simp only [Value.slice.injEq] at hme
  obtain ⟨rfl, rfl, rfl⟩ := hme
  obtain ⟨l2, hl2⟩ : ∃ l2, l2 = l ++ [x] := ⟨_, rfl⟩
  rw [← hl2] at o3 hO3 m31 hQ ⊢
  simp (disch := first | omega | (simp only [e_ssz, e_psz, e_hszs, List.length_cons, List.length_nil]; try omega; done)) only [↓reduceIte, go_sem]
  refine hQ _ u3 h3 (.slice a3 l2.length c3) (fun i hi hi4 => ?_) (by simp [upd]) ((s2.mono (fun c _ q => .inl q)).trans s3 (fun c _ q => .inr q)) (W2.step s3 (fun q => hwb _ q rfl)) o3 (fun c q => (hO3 c q).elim .inl (fun q => .inr (by omega)))
  simp [upd, hi4, show ¬ i = 70 by omega, show ¬ i = 72 by omega, show ¬ i = 73 by omega, show ¬ i = 74 by omega]
/-- The atom's text, read alone: it is right. -/
theorem pfC_ok {Q : Post} {σ : Env} {u : U} {h : H} {b o7 n : Nat} {gv v : Value} {y : List UInt8} {x p : List UInt8} {a : AtomT} (e3 : σ 3 = .pointer (some ⟨b, 0, none⟩)) (e6 : σ 6 = .int .i64 (x.length : Nat)) (e7 : σ 7 = .pointer (some ⟨o7, 0, none⟩))
    (W : Blk u h b [str y, gv, .int .i64 (n : Nat)]) (hy : y = x ++ p) (hyl : y.length ≤ 10000000) (B7 : Blk u h o7 [str a.1, v, .int .i64 a.2.2]) (iv : IsSl u h v a.2.1) (hG : LxG u h) (hp : p.length ≤ 65536) (h0 : (resOneD p).2 = (0, 0)) (h1 : (resOneD p).1.1 = a.1) (h2 : (resOneD p).1.2.1.map constD = a.2.1.map constD)
    (hQ : ∀ (σ' : Env) (u' : U) (h' : H), (∀ i, i < 8 → σ' i = σ i) → Step S0 u h u' h' → wpS G_MakesF pfE Q σ' h') : wpS G_MakesF pfC Q σ h := by
  have hm := mlen'
  have W1 := W.1
  have B71 := B7.1
  obtain ⟨va, vc, rfl, -, -⟩ := iv.sl
  have hyl2 : y.length = x.length + p.length := by rw [hy, List.length_append]
  have hdrop : y.drop x.length = p := by rw [hy]; simp
  rw [pfC_cut]
  simp (disch := first | omega | (simp only [e_ssz, e_psz, e_hszs, List.length_cons, List.length_nil]; try omega; done)) only [↓reduceIte, go_sem, pfC, pfB, sS, sF, sBk, ParseMakesFacts_L1, e3, e6, W.at, W.2.1]
  rw [hdrop]
  refine ⟨by omega, effS_call (.inr (.inr (.inl ⟨rfl, u, p, rfl, by omega, hG, fun u3 h3 w3 s3 o3 => ⟨by simp (disch := first | omega | (simp only [e_ssz, e_psz, e_hszs, List.length_cons, List.length_nil]; try omega; done)) only [go_sem], ?_⟩⟩)))⟩
  obtain ⟨P, hP⟩ : ∃ P, P = resOneD p := ⟨_, rfl⟩
  rw [← hP] at o3 h0 h1 h2 ⊢
  clear hP
  obtain ⟨⟨pn, pl, po⟩, f⟩ := P
  simp only at o3 h0 h1 h2 ⊢
  have hf1 : f.1 = 0 := by rw [h0]
  have hf2 : f.2 = 0 := by rw [h0]
  rw [h2] at o3
  obtain ⟨a3, c3, rfl, m1, m2⟩ := o3.sl
  have hml : (a.2.1.map constD).length = a.2.1.length := List.length_map _
  rw [hml] at o3 m1 ⊢
  rw [h1]
  simp only [fltV]
  obtain ⟨u4, s4, B8, B9⟩ := two_new (u := u3) (h := h3) [str a.1, .slice a3 a.2.1.length c3] [.int .i64 f.1, .int .i64 0, .int .i64 f.2] 24 27
  obtain ⟨h4, hh4⟩ : ∃ h4, h4 = (h3.push (.cells #[str a.1, .slice a3 a.2.1.length c3] 24)).push (.cells #[.int .i64 f.1, .int .i64 0, .int .i64 f.2] 27) := ⟨_, rfl⟩
  rw [← hh4] at s4 B8 B9
  have W4 := (W.step0 s3).step0 s4
  have D7 := (B7.step0 s3).step0 s4
  have i4 := o3.isSl.mono s4.ge
  have j4 := (iv.mono s3.ge).mono s4.ge
  have st4 := s3.trans0 s4
  have W41 := W4.1
  have D71 := D7.1
  have B81 := B8.1
  have B91 := B9.1
  simp (disch := first | omega | (simp only [e_ssz, e_psz, e_hszs, List.length_cons, List.length_nil]; try omega; done)) only [↓reduceIte, go_sem, ← hh4]
  rw [pfD_cut]
  have w1 : IntKind.i64.wrap (((y.length : Nat) : Int) - (x.length : Nat)) = ((y.length : Nat) : Int) - (x.length : Nat) := wr64 (by omega) (by omega)
  simp (disch := first | omega | (simp only [e_ssz, e_psz, e_hszs, List.length_cons, List.length_nil]; try omega; done)) only [↓reduceIte, go_sem, pfD, pfC, pfB, sS, sF, sBk, ParseMakesFacts_L1, e3, e6, e7, W4.at, W4.2.1, D7.at, D7.2.1, B8.at, B8.2.1, B9.at, B9.2.1, w1, eq_true (show ((y.length : Nat) : Int) - (x.length : Nat) ≤ 65536 by omega), eq_true hf1, eq_true hf2]
  refine effS_call (.inr (.inr (.inr (.inr (.inl ⟨rfl, u4, a.1, _, _, a.2.1, a.2.2, rfl, i4, j4, fun u7 h7 s7 => ⟨by simp (disch := first | omega | (simp only [e_ssz, e_psz, e_hszs, List.length_cons, List.length_nil]; try omega; done)) only [go_sem], ?_⟩⟩)))))
  simp (disch := first | omega | (simp only [e_ssz, e_psz, e_hszs, List.length_cons, List.length_nil]; try omega; done)) only [↓reduceIte, go_sem]
  refine hQ _ _ _ (fun i hi => ?_) (st4.trans0 s7)
  simp [upd, show ¬ i = 46 by omega, show ¬ i = 47 by omega, show ¬ i = 8 by omega, show ¬ i = 9 by omega, show ¬ i = 64 by omega, show ¬ i = 63 by omega, show ¬ i = 62 by omega, show ¬ i = 58 by omega, show ¬ i = 65 by omega, show ¬ i = 68 by omega]
theorem factsS_len (gs : List Int) (l : List CC) : ∀ i, (factsS gs l i).1.length = i
  | 0 => rfl
  | i + 1 => by show ((factsS gs l i).1 ++ [_]).length = i + 1; rw [List.length_append, factsS_len gs l i]; rfl
def pfT : S := sS (sS (sS (sS ParseMakesFacts_S)))
theorem pf_cut : ParseMakesFacts_S = .seq (sF ParseMakesFacts_S) (.seq (sF (sS ParseMakesFacts_S)) (.seq (sF (sS (sS ParseMakesFacts_S))) (.seq (sF (sS (sS (sS ParseMakesFacts_S)))) pfT))) := rfl
theorem pfT_ok {σ : Env} {u : U} {h : H} {b : Nat} {gs : List Int} {gv w : Value} {st : MS} {cs : List AtomT} {K : Value → H → Prop} {KP : List PanicEntry → H → Prop} (e3 : σ 3 = .pointer (some ⟨b, 0, none⟩)) (e4 : σ 4 = w) (hM : MkB u h b gs gv st) (hx : st.1.length ≤ 9000000) (iw : IsSl u h w cs) (hG : LxG u h) (hwb : ∀ c, OwnB w c → c ≠ b)
    (hmade : resFacs (st.1 ++ gapK gs st.2) = if 65536 < (st.1 ++ gapK gs st.2).length then ([], (1, 0)) else (cs, (0, 0))) (hK : ∀ u' h', Step (fun c => c = b) u h u' h' → K (.bool true) h') : wpS G_MakesF pfT (retQ ParseMakesFacts_E (callK K KP)) σ h := by
  have hm := mlen'
  obtain ⟨wa, wc, rfl, n1, n2⟩ := iw.sl
  have hgl := gapK_len gs st.2
  simp (disch := first | omega | (simp only [e_ssz, e_psz, e_hszs, List.length_cons, List.length_nil]; try omega; done)) only [go_sem, pfT, sS, ParseMakesFacts_S, ParseMakesFacts_E, e3]
  refine effS_call (.inl ⟨rfl, u, b, gs, gv, st, [], rfl, hM, by decide, fun h2 s2 W2 => ⟨by simp (disch := first | omega | (simp only [e_ssz, e_psz, e_hszs, List.length_cons, List.length_nil]; try omega; done)) only [go_sem], ?_⟩⟩)
  obtain ⟨S, hS⟩ : ∃ S, S = st.1 ++ gapK gs st.2 := ⟨_, rfl⟩
  have hSl : S.length ≤ 9000018 := by rw [hS, List.length_append]; omega
  have W2' : Blk u h2 b [str S, gv, .int .i64 ((putS gs st []).2 : Nat)] := by rw [hS]; have := W2; simp only [putS, List.append_nil] at this; exact this
  rw [← hS] at hmade
  have W21 := W2'.1
  have iw2 := iw.mono s2.ge
  simp (disch := first | omega | (simp only [e_ssz, e_psz, e_hszs, List.length_cons, List.length_nil]; try omega; done)) only [↓reduceIte, go_sem, e3, W2'.at, W2'.2.1]
  refine effS_call (.inr (.inr (.inr (.inl ⟨rfl, u, S, rfl, by omega, hG.mono s2.ge, fun u3 h3 w3 s3 o3 => ⟨by simp (disch := first | omega | (simp only [e_ssz, e_psz, e_hszs, List.length_cons, List.length_nil]; try omega; done)) only [go_sem], ?_⟩⟩))))
  obtain ⟨P, hP⟩ : ∃ P, P = resFacs S := ⟨_, rfl⟩
  rw [← hP] at o3 hmade ⊢
  obtain ⟨ps, f⟩ := P
  simp only at o3 ⊢
  obtain ⟨a3, c3, rfl, m1, m2⟩ := o3.sl
  simp only [fltV]
  have s4 := Step.push0 S0 u3 h3 #[.int .i64 f.1, .int .i64 0, .int .i64 f.2] 27
  have B9 := Blk.new (u := u3) (h := h3) [.int .i64 f.1, .int .i64 0, .int .i64 f.2] 27
  obtain ⟨h4, hh4⟩ : ∃ h4, h4 = h3.push (.cells #[.int .i64 f.1, .int .i64 0, .int .i64 f.2] 27) := ⟨_, rfl⟩
  obtain ⟨u4, hu4⟩ : ∃ u4, u4 = ub u3 h3.size 0 := ⟨_, rfl⟩
  have B9' : Blk u4 h4 h3.size [.int .i64 f.1, .int .i64 0, .int .i64 f.2] := by rw [hu4, hh4]; exact B9
  rw [← hh4, ← hu4] at s4
  clear B9
  have W4 := (W2'.step0 s3).step0 s4
  have W41 := W4.1
  have B91 := B9'.1
  have st4 : Step (fun c => c = b) u h u4 h4 := (s2.trans0 s3).trans0 s4
  have i4 := o3.isSl.mono s4.ge
  have j4 := (iw2.mono s3.ge).mono s4.ge
  by_cases h65 : 65536 < S.length
  · rw [if_pos h65] at hmade
    obtain ⟨hps, hf⟩ := Prod.mk.inj hmade
    have hf1 : f.1 = 1 := by rw [hf]
    have hf2 : f.2 = 0 := by rw [hf]
    have hpl : ps.length = 0 := by rw [hps]; rfl
    simp (disch := first | omega | (simp only [e_ssz, e_psz, e_hszs, List.length_cons, List.length_nil]; try omega; done)) only [↓reduceIte, go_sem, ← hh4, e3, W4.at, W4.2.1, B9'.at, B9'.2.1, eq_true (show (65536 : Int) < (S.length : Nat) by omega), eq_true hf1, eq_true hf2, eq_true (show ((ps.length : Nat) : Int) = 0 by omega)]
    refine effS_call (.inr (.inr (.inr (.inr (.inr (.inr ⟨rfl, u4, rfl, hG.mono st4.ge, fun u8 h8 s8 => ⟨by simp (disch := first | omega | (simp only [e_ssz, e_psz, e_hszs, List.length_cons, List.length_nil]; try omega; done)) only [go_sem], ?_⟩⟩))))))
    simp (disch := first | omega | (simp only [e_ssz, e_psz, e_hszs, List.length_cons, List.length_nil]; try omega; done)) only [↓reduceIte, go_sem]
    exact hK _ _ (st4.trans0 s8)
  · rw [if_neg h65] at hmade
    obtain ⟨rfl, hf⟩ := Prod.mk.inj hmade
    have hf1 : f.1 = 0 := by rw [hf]
    have hf2 : f.2 = 0 := by rw [hf]
    simp (disch := first | omega | (simp only [e_ssz, e_psz, e_hszs, List.length_cons, List.length_nil]; try omega; done)) only [↓reduceIte, go_sem, ← hh4, e3, e4, W4.at, W4.2.1, B9'.at, B9'.2.1, eq_false (show ¬ (65536 : Int) < (S.length : Nat) by omega), eq_true hf1, eq_true hf2]
    refine effS_call (.inr (.inr (.inr (.inr (.inr (.inl ⟨rfl, u4, _, _, ps, rfl, i4, j4, fun u7 h7 s7 => ⟨by simp (disch := first | omega | (simp only [e_ssz, e_psz, e_hszs, List.length_cons, List.length_nil]; try omega; done)) only [go_sem], ?_⟩⟩))))))
    have st7 := st4.trans0 s7
    simp (disch := first | omega | (simp only [e_ssz, e_psz, e_hszs, List.length_cons, List.length_nil]; try omega; done)) only [↓reduceIte, go_sem]
    refine effS_call (.inr (.inr (.inr (.inr (.inr (.inr ⟨rfl, u7, rfl, hG.mono st7.ge, fun u8 h8 s8 => ⟨by simp (disch := first | omega | (simp only [e_ssz, e_psz, e_hszs, List.length_cons, List.length_nil]; try omega; done)) only [go_sem], ?_⟩⟩))))))
    simp (disch := first | omega | (simp only [e_ssz, e_psz, e_hszs, List.length_cons, List.length_nil]; try omega; done)) only [↓reduceIte, go_sem]
    exact hK _ _ (st7.trans0 s8)
set_option maxHeartbeats 2000000 in
theorem ParseMakesFacts_ok {vs : List Value} {h : H} {K : Value → H → Prop} {KP : List PanicEntry → H → Prop} (hC : C_make vs h K) : HCX Tryd.prog 12 vs h K KP := by
  obtain ⟨u, cv, gv, l, gs, rfl, il, ig, hl, hG, hP, hK⟩ := hC
  have hm := mlen'
  refine ParseMakesFacts_H G_MakesF G_MakesF_ok _ ?_
  obtain ⟨la, lc, rfl, n1, n2⟩ := il.sl
  obtain ⟨ga, gc, rfl, n3, n4⟩ := ig.sl
  obtain ⟨u2, s2, B1, B3⟩ := two_new (u := u) (h := h) [.slice la l.length lc, .slice ga gs.length gc] [str [], .slice ga gs.length gc, .int .i64 0] 39 42
  obtain ⟨h2, hh2⟩ : ∃ h2, h2 = (h.push (.cells #[.slice la l.length lc, .slice ga gs.length gc] 39)).push (.cells #[str [], .slice ga gs.length gc, .int .i64 0] 42) := ⟨_, rfl⟩
  rw [← hh2] at s2 B1 B3
  have z2 : h2.size = h.size + 2 := by rw [hh2]; simp
  obtain ⟨b1, hb1⟩ : ∃ b, b = h.size := ⟨_, rfl⟩
  obtain ⟨b, hb⟩ : ∃ b, b = b1 + 1 := ⟨_, rfl⟩
  rw [← hb1] at B1
  rw [← hb1, ← hb] at B3
  have B11 := B1.1
  have B31 := B3.1
  rw [pf_cut]
  simp (disch := first | omega | (simp only [e_ssz, e_psz, e_hszs, List.length_cons, List.length_nil]; try omega; done)) only [↓reduceIte, go_sem, sF, sS, ParseMakesFacts_S, ParseMakesFacts_E, ← hh2, ← hb1, ← hb]
  obtain ⟨n, hn⟩ : ∃ n, n = min l.length 40 := ⟨_, rfl⟩
  obtain ⟨I, hI⟩ : ∃ I : Nat → Env → H → Prop, I = fun k σ h' => ∃ (u' : U) (w : Value), σ 1 = .pointer (some ⟨b1, 0, none⟩) ∧ σ 3 = .pointer (some ⟨b, 0, none⟩) ∧ σ 4 = w ∧ σ 5 = .int .i64 (k : Nat) ∧ k ≤ n ∧ Step S0 u h u' h' ∧ Blk u' h' b1 [.slice la l.length lc, .slice ga gs.length gc] ∧
      Blk u' h' b [str (factsS gs l k).2.1, .slice ga gs.length gc, .int .i64 ((factsS gs l k).2.2 : Nat)] ∧ Own h.size u' h' w (factsS gs l k).1 ∧ (∀ c, OwnB w c → c ≠ b ∧ c ≠ b1) := ⟨_, rfl⟩
  refine wpS_loop I (fun j => n - j) 0 (by rw [hI]; exact ⟨u2, _, by simp [upd], by simp [upd], by simp [upd], by simp [upd], by omega, s2, B1, B3, .nil _ _ _, fun c ⟨_, _, _, q⟩ => (by cases q)⟩) ?_
  clear B1 B3 B11 B31 s2 hh2
  intro k σ h' hy
  rw [hI] at hy
  obtain ⟨u', w, e1, e3, e4, e5, hk, st', B1, Bb, ow, hwb⟩ := hy
  have hnear := facts_near (gs := gs) hl k
  have hal := factsS_len gs l k
  have hmade := facts_made (gs := gs) hl (i := k) (by omega)
  have hnext : factsS gs l (k + 1) = ((factsS gs l k).1 ++ [(mkAtom gs true (l.getD k noCC).1 (factsS gs l k).2).1], putS gs (mkAtom gs true (l.getD k noCC).1 (factsS gs l k).2).2 [46]) := rfl
  obtain ⟨A, hA⟩ : ∃ A, A = factsS gs l k := ⟨_, rfl⟩
  rw [← hA] at Bb ow hnear hal hmade hnext
  obtain ⟨hn1, hn2⟩ := hnear
  obtain ⟨wa, wc, rfl, q1, q2⟩ := ow.sl
  have Bb1 := Bb.1
  have B11 := B1.1
  have zz := st'.ge.sz
  have hMk : MkB u' h' b gs (.slice ga gs.length gc) A.2 := ⟨Bb, ig.mono st'.ge, by omega, by omega⟩
  by_cases hlt : k < n
  case neg =>
    obtain rfl : k = n := by omega
    have fin : ∀ (σ2 : Env), σ2 3 = σ 3 → σ2 4 = σ 4 → wpS G_MakesF pfT (retQ ParseMakesFacts_E (callK K KP)) σ2 h' := by
      intro σ2 f3 f4
      exact pfT_ok (f3.trans e3) (f4.trans e4) hMk (by omega) ow.isSl (hG.mono st'.ge) (fun c q => (hwb c q).1) hmade (fun u2 h2 s2 => hK _ _ (st'.trans s2 (fun c hc q => by omega)))
    by_cases hkt : k < l.length
    · simp (disch := first | omega | (simp only [e_ssz, e_psz, e_hszs, List.length_cons, List.length_nil]; try omega; done)) only [↓reduceIte, go_sem, ParseMakesFacts_L1, e1, e5, B1.at, B1.2.1, hkt, eq_false (show ¬ (k : Int) < 40 by omega)]
      exact fin _ (by simp [upd]) (by simp [upd])
    · simp (disch := first | omega | (simp only [e_ssz, e_psz, e_hszs, List.length_cons, List.length_nil]; try omega; done)) only [↓reduceIte, go_sem, ParseMakesFacts_L1, e1, e5, B1.at, B1.2.1, eq_false (show ¬ (k : Int) < (l.length : Nat) by omega)]
      exact fin _ (by simp [upd]) (by simp [upd])
  have hkt : k < l.length := by omega
  obtain ⟨x, hx⟩ : ∃ x, l[k]? = some x := ⟨l[k], by simp [hkt]⟩
  obtain ⟨hxa, -⟩ := hl x (List.mem_of_getElem? hx)
  have hgd : l.getD k noCC = x := by rw [List.getD_eq_getElem?_getD, hx]; rfl
  rw [hgd] at hnext
  have il2 := il.mono st'.ge
  obtain ⟨pb, po, rfl, hpb, hpu, hpz, hpr⟩ := il2.row k x hx
  obtain ⟨xv, xw, hpr, ixv, ixw⟩ := rep_CC hpr
  obtain ⟨xa, xc, rfl, -, -⟩ := ixv.sl
  simp only [sz_CC, hvs_3, List.cons.injEq, and_true] at hpr hpu hpz
  obtain ⟨p0, p1, p2⟩ := hpr
  rw [pfL_cut]
  simp (disch := first | omega | (simp only [e_ssz, e_psz, e_hszs, List.length_cons, List.length_nil]; try omega; done)) only [↓reduceIte, go_sem, pfB, sF, sS, sBk, ParseMakesFacts_L1, e1, e3, e5, B1.at, B1.2.1, Bb.at, Bb.2.1, hkt, eq_true (show (k : Int) < 40 by omega), p0, p1]
  refine effS_call (.inr (.inl ⟨rfl, u', b, gs, _, true, x.1, _, A.2, rfl, hMk, by omega, ixv, hxa, hP.mono st'.ge, fun u8 h8 w8 s8 W8 O8 => ⟨by simp (disch := first | omega | (simp only [e_ssz, e_psz, e_hszs, List.length_cons, List.length_nil]; try omega; done)) only [go_sem], ?_⟩⟩))
  obtain ⟨p, hp1, hp2, hp3, hp4, hp5⟩ := alone_made (gs := gs) hxa A.2.1 A.2.2
  have hna := atom_near (gs := gs) (gr := true) (st := A.2) hxa
  obtain ⟨at', hat⟩ : ∃ y, y = (mkAtom gs true x.1 A.2).1 := ⟨_, rfl⟩
  obtain ⟨st1, hst1⟩ : ∃ y, y = (mkAtom gs true x.1 A.2).2 := ⟨_, rfl⟩
  rw [← hst1] at hna W8 hnext
  rw [← hat] at O8 hnext ⊢
  have hpA : (mkAtom gs true x.1 (A.2.1, A.2.2)) = mkAtom gs true x.1 A.2 := rfl
  rw [hpA, ← hst1] at hp1
  rw [hpA, ← hat] at hp4 hp5
  have hna1 := hna.1
  have hna2 := hna.2
  obtain ⟨ya, yc, rfl, -, -⟩ := O8.sl
  have z8 := s8.ge.sz
  obtain ⟨h9, h10, u10, hh9, hh10, D7, E7, s10, hz10⟩ := boxed u8 h8 [str [], .slice none 0 0, .int .i64 0] [str at'.1, .slice ya at'.2.1.length yc, .int .i64 at'.2.2] 52 rfl
  have D71 := D7.1
  have E71 := E7.1
  obtain ⟨o7, ho7⟩ : ∃ o, o = h8.size := ⟨_, rfl⟩
  rw [← ho7] at D7 D71 E7 E71 hh10
  have Wb := W8.step0 s10
  have iv10 := O8.isSl.mono s10.ge
  have ow10 := (ow.step s8 (fun c qc q => (hwb c qc).1 q)).step0 s10
  have B110 := (B1.step s8 (by omega)).step0 s10
  have st10 : Step S0 u h u10 h10 := (st'.trans s8 (fun c hc q => by omega)).trans0 s10
  simp (disch := first | omega | (simp only [e_ssz, e_psz, e_hszs, List.length_cons, List.length_nil]; try omega; done)) only [↓reduceIte, go_sem, ← hh9, ← ho7, ← hh10, D7.2.1, D7.2.2.1]
  refine pfC_ok (b := b) (o7 := o7) (y := st1.1) (x := A.2.1) (p := p) (a := at') (by simp [upd, e3]) (by simp [upd]) (by simp [upd]) Wb hp1 (by omega) E7 iv10 (hG.mono st10.ge) hp2 hp3 hp4 hp5 ?_
  intro σ2 u2 h2 hσ2 s2
  have g := fun i (hi : i < 8) => hσ2 i hi
  have z2 := s2.ge.sz
  have st2 := st10.trans0 s2
  refine pfE_ok (b := b) (o7 := o7) (z := h.size) (x := at') (st := st1) (l := A.1) (by rw [g 3 (by omega)]; simp [upd, e3]) (by rw [g 4 (by omega)]; simp [upd, e4]) (by rw [g 7 (by omega)]; simp [upd]) ⟨Wb.step0 s2, ig.mono st2.ge, by omega, by omega⟩ (E7.step0 s2) (by omega) (iv10.mono s2.ge) (ow10.step0 s2) (fun c qc => (hwb c qc).1) (by omega) (by have := st2.ge.sz; omega) ?_
  intro σ3 u3 h3 w3 hσ3 e43 s3 W3 O3 hO3
  have g1 : σ3 1 = .pointer (some ⟨b1, 0, none⟩) := by rw [hσ3 1 (by omega) (by omega), g 1 (by omega)]; simp [upd, e1]
  have g3 : σ3 3 = .pointer (some ⟨b, 0, none⟩) := by rw [hσ3 3 (by omega) (by omega), g 3 (by omega)]; simp [upd, e3]
  have g5 : σ3 5 = .int .i64 (k : Nat) := by rw [hσ3 5 (by omega) (by omega), g 5 (by omega)]; simp [upd, e5]
  have hb1n : ¬ (b1 = b ∨ OwnB (.slice wa A.1.length wc) b1) := by
    rintro (q | q)
    · omega
    · exact (hwb _ q).2 rfl
  simp (disch := first | omega | (simp only [e_ssz, e_psz, e_hszs, List.length_cons, List.length_nil]; try omega; done)) only [↓reduceIte, go_sem, g5]
  refine ⟨k + 1, ?_, by omega⟩
  rw [hI]
  refine ⟨u3, w3, by simp [upd, g1], by simp [upd, g3], by simp [upd, e43], by simp [upd], hlt, st2.trans s3 (fun c hc q => q.elim (fun q => by omega) (fun q => by have := ow.ge q; omega)), (B110.step0 s2).step s3 hb1n, by rw [hnext]; exact W3, by rw [hnext]; exact O3, fun c q => (hO3 c q).elim (hwb c) (fun q => by have := st2.ge.sz; have := s10.ge.sz; omega)⟩
theorem ParseMakesFacts_hc {cv gv : Value} {l : List CC} {gs : List Int} {h : H} (hc : IsSl (hsz h) h cv l) (hg : IsSl (hsz h) h gv gs) (hl : ∀ c ∈ l, OkCC c) (hG : LxG (hsz h) h) (hP : PowG (hsz h) h) : HCX Tryd.prog 12 [.agg #[cv, gv]] h (fun v h' => v = .bool true ∧ Ext0 h h') fun _ _ => False :=
  ParseMakesFacts_ok ⟨hsz h, cv, gv, l, gs, rfl, hc, hg, hl, hG, hP, fun u' h' st => ⟨rfl, st.ext⟩⟩
end Go.Proofs.YtmnfhmbmifompaaDoor
