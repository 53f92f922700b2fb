/- The law ParseMakes. -/
import Derived.Test.YtmnfhmbmifompaaDoorPlXh
import Derived.Test.YtmnfhmbmifompaaDoorPlG
import Derived.Test.YtmnfhmbmifompaaDoorPlX2
namespace Go.Proofs.YtmnfhmbmifompaaDoor
open Go Go.Ev Edict
def G_Makes : Ctr := fun f vs h K _ => (f = 26 ∧ C_put vs h K) ∨ (f = 25 ∧ C_matom vs h K) ∨ (f = 27 ∧ C_mbody vs h K) ∨ (f = 28 ∧ C_pProgU vs h K) ∨ (f = 30 ∧ C_sClauses vs h K) ∨ (f = 29 ∧ C_taken vs h K)
theorem G_Makes_ok : GOk Tryd.prog G_Makes := by
  rintro f vs h K KP (⟨rfl, hC⟩ | ⟨rfl, hC⟩ | ⟨rfl, hC⟩ | ⟨rfl, hC⟩ | ⟨rfl, hC⟩ | ⟨rfl, hC⟩)
  · exact plPut_ok hC
  · exact plMAtom_ok hC
  · exact plMBody_ok hC
  · exact psProgU_ok hC
  · exact plSameClauses_ok hC
  · exact plTaken_ok hC
def pmB : S := sBk (sF (sS ParseMakes_L1))
def pmC : S := sS (sS pmB)
def pmE : S := sS pmC
theorem pmL_cut : ParseMakes_L1 = .seq (sF ParseMakes_L1) (.seq (.block 1 (.seq (sF pmB) (.seq (sF (sS pmB)) pmC))) (sS (sS ParseMakes_L1))) := rfl
theorem pmC_cut : pmC = .seq (sF pmC) pmE := rfl
theorem pmE_ok {Q : Post} {σ : Env} {u : U} {h : H} {b o7 z : Nat} {gs : List Int} {gv w v bv : Value} {st : MS} {p : List UInt8} {off : Int} {args : List TermT} {bd : List LitT} {l : List ClauseT} (e3 : σ 3 = .pointer (some ⟨b, 0, none⟩)) (e4 : σ 4 = w) (e7 : σ 7 = .pointer (some ⟨o7, 0, none⟩))
    (hM : MkB u h b gs gv st) (B7 : Blk u h o7 [str p, v, .int .i64 off, bv]) (h7b : o7 ≠ b) (iv : IsSl u h v args) (ib : IsSl u h bv bd) (ow : Own z u h w l) (hwb : ∀ c, OwnB w c → c ≠ b) (hl : l.length ≤ 1000) (hz : z ≤ h.size)
    (hQ : ∀ (σ' : Env) (u' : U) (h' : H) (w' : Value), (∀ i, i < 6 → i ≠ 4 → σ' i = σ i) → σ' 4 = w' → Step (fun c => c = b ∨ OwnB w c) u h u' h' → Blk u' h' b [str (putS gs st [46]).1, gv, .int .i64 ((putS gs st [46]).2 : Nat)] → Own z u' h' w' (l ++ [((p, args, off), bd)]) → (∀ c, OwnB w' c → OwnB w c ∨ h.size ≤ c) → Q .normal σ' h') : wpS G_Makes pmE Q σ h := by
  have hm := mlen'
  have B71 := B7.1
  obtain ⟨wa, wc, rfl, n1, n2⟩ := ow.sl
  obtain ⟨va, vc, rfl, -, -⟩ := iv.sl
  obtain ⟨ba, bc, rfl, -, -⟩ := ib.sl
  simp (disch := first | omega | (simp only [e_ssz, e_psz, e_hszs, List.length_cons, List.length_nil]; try omega; done)) only [go_sem, pmE, pmC, pmB, sS, sF, sBk, ParseMakes_L1, e3]
  refine effS_call (.inl ⟨rfl, u, b, gs, gv, st, [46], rfl, hM, by decide, fun h2 s2 W2 => ⟨by simp (disch := first | omega | (simp only [e_ssz, e_psz, e_hszs, List.length_cons, List.length_nil]; try omega; done)) only [go_sem], ?_⟩⟩)
  have D7 := B7.step s2 h7b
  have D71 := D7.1
  have ow2 := ow.step s2 (fun c qc q => hwb c qc q)
  have z2 := s2.ge.sz
  have hxr : Rep.rep u h2 (((p, args, off), bd) : ClauseT) [str p, .slice va args.length vc, .int .i64 off, .slice ba bd.length bc] := by rw [rep_clause]; exact ⟨_, _, rfl, iv.mono s2.ge, ib.mono s2.ge⟩
  simp (disch := first | omega | (simp only [e_ssz, e_psz, e_hszs, List.length_cons, List.length_nil]; try omega; done)) only [↓reduceIte, go_sem, e4, e7, D7.at, D7.2.1]
  refine effS_app1q rfl ow2 hxr rfl rfl (by omega) (by omega) fun a3 n3 c3 u3 h3 o3 s3 hO3 => ⟨by simp (disch := first | omega | (simp only [e_ssz, e_psz, e_hszs, List.length_cons, List.length_nil]; try omega; done)) only [go_sem], ?_⟩
  obtain ⟨_, _, hme, m31, m32⟩ := o3.sl
  simp only [Value.slice.injEq] at hme
  obtain ⟨rfl, rfl, rfl⟩ := hme
  obtain ⟨l2, hl2⟩ : ∃ l2, l2 = l ++ [(((p, args, off), bd) : ClauseT)] := ⟨_, rfl⟩
  rw [← hl2] at o3 hO3 m31 hQ ⊢
  simp (disch := first | omega | (simp only [e_ssz, e_psz, e_hszs, List.length_cons, List.length_nil]; try omega; done)) only [↓reduceIte, go_sem]
  refine hQ _ u3 h3 (.slice a3 l2.length c3) (fun i hi hi4 => ?_) (by simp [upd]) ((s2.mono (fun c _ q => .inl q)).trans s3 (fun c _ q => .inr q)) (W2.step s3 (fun q => hwb _ q rfl)) o3 (fun c q => (hO3 c q).elim .inl (fun q => .inr (by omega)))
  simp [upd, hi4, show ¬ i = 47 by omega, show ¬ i = 49 by omega, show ¬ i = 50 by omega, show ¬ i = 51 by omega]
theorem progS_len (gs : List Int) (l : List CC) : ∀ i, (progS gs l i).1.length = i
  | 0 => rfl
  | i + 1 => by show ((progS gs l i).1 ++ [_]).length = i + 1; rw [List.length_append, progS_len gs l i]; rfl
def pmT : S := sS (sS (sS (sS ParseMakes_S)))
theorem pm_cut : ParseMakes_S = .seq (sF ParseMakes_S) (.seq (sF (sS ParseMakes_S)) (.seq (sF (sS (sS ParseMakes_S))) (.seq (sF (sS (sS (sS ParseMakes_S)))) pmT))) := rfl
theorem pmT_ok {σ : Env} {u : U} {h : H} {b : Nat} {gs : List Int} {gv w : Value} {st : MS} {cs : List ClauseT} {K : Value → H → Prop} {KP : List PanicEntry → H → Prop} (e3 : σ 3 = .pointer (some ⟨b, 0, none⟩)) (e4 : σ 4 = w) (hM : MkB u h b gs gv st) (hx : st.1.length ≤ 9000000) (iw : IsSl u h w cs) (hG : LxG u h) (hwb : ∀ c, OwnB w c → c ≠ b)
    (hmade : resProg (st.1 ++ gapK gs st.2) = if 65536 < (st.1 ++ gapK gs st.2).length then ([], (1, 0)) else (cs, (0, 0))) (hK : ∀ u' h', Step (fun c => c = b) u h u' h' → K (.bool true) h') : wpS G_Makes pmT (retQ ParseMakes_E (callK K KP)) σ h := by
  have hm := mlen'
  obtain ⟨wa, wc, rfl, n1, n2⟩ := iw.sl
  have hgl := gapK_len gs st.2
  simp (disch := first | omega | (simp only [e_ssz, e_psz, e_hszs, List.length_cons, List.length_nil]; try omega; done)) only [go_sem, pmT, sS, ParseMakes_S, ParseMakes_E, e3]
  refine effS_call (.inl ⟨rfl, u, b, gs, gv, st, [], rfl, hM, by decide, fun h2 s2 W2 => ⟨by simp (disch := first | omega | (simp only [e_ssz, e_psz, e_hszs, List.length_cons, List.length_nil]; try omega; done)) only [go_sem], ?_⟩⟩)
  obtain ⟨S, hS⟩ : ∃ S, S = st.1 ++ gapK gs st.2 := ⟨_, rfl⟩
  have hSl : S.length ≤ 9000018 := by rw [hS, List.length_append]; omega
  have W2' : Blk u h2 b [str S, gv, .int .i64 ((putS gs st []).2 : Nat)] := by rw [hS]; have := W2; simp only [putS, List.append_nil] at this; exact this
  rw [← hS] at hmade
  have W21 := W2'.1
  have iw2 := iw.mono s2.ge
  simp (disch := first | omega | (simp only [e_ssz, e_psz, e_hszs, List.length_cons, List.length_nil]; try omega; done)) only [↓reduceIte, go_sem, e3, W2'.at, W2'.2.1]
  refine effS_call (.inr (.inr (.inr (.inl ⟨rfl, u, S, rfl, by omega, hG.mono s2.ge, fun u3 h3 w3 s3 o3 => ⟨by simp (disch := first | omega | (simp only [e_ssz, e_psz, e_hszs, List.length_cons, List.length_nil]; try omega; done)) only [go_sem], ?_⟩⟩))))
  by_cases h65 : 65536 < S.length
  · rw [if_pos h65] at hmade
    obtain ⟨P, hP⟩ : ∃ P, P = resProg S := ⟨_, rfl⟩
    rw [← hP] at o3 hmade ⊢
    obtain ⟨ps, f⟩ := P
    obtain ⟨hps, hf⟩ := Prod.mk.inj hmade
    have hf1 : f.1 = 1 := by rw [hf]
    have hf2 : f.2 = 0 := by rw [hf]
    have hpl : ps.length = 0 := by rw [hps]; rfl
    simp only at o3 ⊢
    obtain ⟨a3, c3, rfl, m1, m2⟩ := o3.sl
    simp only [fltV]
    obtain ⟨u4, s4, B8, B9⟩ := two_new (u := u3) (h := h3) [.slice a3 ps.length c3] [.int .i64 f.1, .int .i64 0, .int .i64 f.2] 60 27
    obtain ⟨h4, hh4⟩ : ∃ h4, h4 = (h3.push (.cells #[.slice a3 ps.length c3] 60)).push (.cells #[.int .i64 f.1, .int .i64 0, .int .i64 f.2] 27) := ⟨_, rfl⟩
    rw [← hh4] at s4 B8 B9
    have W4 := (W2'.step0 s3).step0 s4
    have W41 := W4.1
    have B81 := B8.1
    have B91 := B9.1
    have st4 : Step (fun c => c = b) u h u4 h4 := (s2.trans0 s3).trans0 s4
    simp (disch := first | omega | (simp only [e_ssz, e_psz, e_hszs, List.length_cons, List.length_nil]; try omega; done)) only [↓reduceIte, go_sem, ← hh4, e3, W4.at, W4.2.1, B8.at, B8.2.1, B9.at, B9.2.1, eq_true (show (65536 : Int) < (S.length : Nat) by omega), eq_true hf1, eq_true hf2, eq_true (show ((ps.length : Nat) : Int) = 0 by omega)]
    refine effS_call (.inr (.inr (.inr (.inr (.inr ⟨rfl, u4, rfl, hG.mono st4.ge, fun u8 h8 s8 => ⟨by simp (disch := first | omega | (simp only [e_ssz, e_psz, e_hszs, List.length_cons, List.length_nil]; try omega; done)) only [go_sem], ?_⟩⟩)))))
    simp (disch := first | omega | (simp only [e_ssz, e_psz, e_hszs, List.length_cons, List.length_nil]; try omega; done)) only [↓reduceIte, go_sem]
    exact hK _ _ (st4.trans0 s8)
  · rw [if_neg h65] at hmade
    obtain ⟨P, hP⟩ : ∃ P, P = resProg S := ⟨_, rfl⟩
    rw [← hP] at o3 hmade ⊢
    obtain ⟨ps, f⟩ := P
    obtain ⟨rfl, hf⟩ := Prod.mk.inj hmade
    have hf1 : f.1 = 0 := by rw [hf]
    have hf2 : f.2 = 0 := by rw [hf]
    simp only at o3 ⊢
    obtain ⟨a3, c3, rfl, m1, m2⟩ := o3.sl
    simp only [fltV]
    obtain ⟨u4, s4, B8, B9⟩ := two_new (u := u3) (h := h3) [.slice a3 ps.length c3] [.int .i64 f.1, .int .i64 0, .int .i64 f.2] 60 27
    obtain ⟨h4, hh4⟩ : ∃ h4, h4 = (h3.push (.cells #[.slice a3 ps.length c3] 60)).push (.cells #[.int .i64 f.1, .int .i64 0, .int .i64 f.2] 27) := ⟨_, rfl⟩
    rw [← hh4] at s4 B8 B9
    have W4 := (W2'.step0 s3).step0 s4
    have W41 := W4.1
    have B81 := B8.1
    have B91 := B9.1
    have st4 : Step (fun c => c = b) u h u4 h4 := (s2.trans0 s3).trans0 s4
    have i4 := o3.isSl.mono s4.ge
    have j4 := (iw2.mono s3.ge).mono s4.ge
    simp (disch := first | omega | (simp only [e_ssz, e_psz, e_hszs, List.length_cons, List.length_nil]; try omega; done)) only [↓reduceIte, go_sem, ← hh4, e3, e4, W4.at, W4.2.1, B8.at, B8.2.1, B9.at, B9.2.1, eq_false (show ¬ (65536 : Int) < (S.length : Nat) by omega), eq_true hf1, eq_true hf2]
    refine effS_call (.inr (.inr (.inr (.inr (.inl ⟨rfl, u4, _, _, ps, rfl, i4, j4, fun u7 h7 s7 => ⟨by simp (disch := first | omega | (simp only [e_ssz, e_psz, e_hszs, List.length_cons, List.length_nil]; try omega; done)) only [go_sem], ?_⟩⟩)))))
    have st7 := st4.trans0 s7
    simp (disch := first | omega | (simp only [e_ssz, e_psz, e_hszs, List.length_cons, List.length_nil]; try omega; done)) only [↓reduceIte, go_sem]
    refine effS_call (.inr (.inr (.inr (.inr (.inr ⟨rfl, u7, rfl, hG.mono st7.ge, fun u8 h8 s8 => ⟨by simp (disch := first | omega | (simp only [e_ssz, e_psz, e_hszs, List.length_cons, List.length_nil]; try omega; done)) only [go_sem], ?_⟩⟩)))))
    simp (disch := first | omega | (simp only [e_ssz, e_psz, e_hszs, List.length_cons, List.length_nil]; try omega; done)) only [↓reduceIte, go_sem]
    exact hK _ _ (st7.trans0 s8)
set_option maxHeartbeats 2000000 in
theorem ParseMakes_ok {vs : List Value} {h : H} {K : Value → H → Prop} {KP : List PanicEntry → H → Prop} (hC : C_make vs h K) : HCX Tryd.prog 5 vs h K KP := by
  obtain ⟨u, cv, gv, l, gs, rfl, il, ig, hl, hG, hP, hK⟩ := hC
  have hm := mlen'
  refine ParseMakes_H G_Makes G_Makes_ok _ ?_
  obtain ⟨la, lc, rfl, n1, n2⟩ := il.sl
  obtain ⟨ga, gc, rfl, n3, n4⟩ := ig.sl
  obtain ⟨u2, s2, B1, B3⟩ := two_new (u := u) (h := h) [.slice la l.length lc, .slice ga gs.length gc] [str [], .slice ga gs.length gc, .int .i64 0] 39 42
  obtain ⟨h2, hh2⟩ : ∃ h2, h2 = (h.push (.cells #[.slice la l.length lc, .slice ga gs.length gc] 39)).push (.cells #[str [], .slice ga gs.length gc, .int .i64 0] 42) := ⟨_, rfl⟩
  rw [← hh2] at s2 B1 B3
  have z2 : h2.size = h.size + 2 := by rw [hh2]; simp
  obtain ⟨b1, hb1⟩ : ∃ b, b = h.size := ⟨_, rfl⟩
  obtain ⟨b, hb⟩ : ∃ b, b = b1 + 1 := ⟨_, rfl⟩
  rw [← hb1] at B1
  rw [← hb1, ← hb] at B3
  have B11 := B1.1
  have B31 := B3.1
  rw [pm_cut]
  simp (disch := first | omega | (simp only [e_ssz, e_psz, e_hszs, List.length_cons, List.length_nil]; try omega; done)) only [↓reduceIte, go_sem, sF, sS, ParseMakes_S, ParseMakes_E, ← hh2, ← hb1, ← hb]
  obtain ⟨n, hn⟩ : ∃ n, n = min l.length 40 := ⟨_, rfl⟩
  obtain ⟨I, hI⟩ : ∃ I : Nat → Env → H → Prop, I = fun k σ h' => ∃ (u' : U) (w : Value), σ 1 = .pointer (some ⟨b1, 0, none⟩) ∧ σ 3 = .pointer (some ⟨b, 0, none⟩) ∧ σ 4 = w ∧ σ 5 = .int .i64 (k : Nat) ∧ k ≤ n ∧ Step S0 u h u' h' ∧ Blk u' h' b1 [.slice la l.length lc, .slice ga gs.length gc] ∧
      Blk u' h' b [str (progS gs l k).2.1, .slice ga gs.length gc, .int .i64 ((progS gs l k).2.2 : Nat)] ∧ Own h.size u' h' w (progS gs l k).1 ∧ (∀ c, OwnB w c → c ≠ b ∧ c ≠ b1) := ⟨_, rfl⟩
  refine wpS_loop I (fun j => n - j) 0 (by rw [hI]; exact ⟨u2, _, by simp [upd], by simp [upd], by simp [upd], by simp [upd], by omega, s2, B1, B3, .nil _ _ _, fun c ⟨_, _, _, q⟩ => (by cases q)⟩) ?_
  clear B1 B3 B11 B31 s2 hh2
  intro k σ h' hy
  rw [hI] at hy
  obtain ⟨u', w, e1, e3, e4, e5, hk, st', B1, Bb, ow, hwb⟩ := hy
  have hnear := prog_near (gs := gs) hl k
  have hal := progS_len gs l k
  have hmade := prog_made (gs := gs) hl (i := k) (by omega)
  have hnext : progS gs l (k + 1) = ((progS gs l k).1 ++ [(mkClause gs (l.getD k noCC) (progS gs l k).2).1], (mkClause gs (l.getD k noCC) (progS gs l k).2).2) := rfl
  obtain ⟨A, hA⟩ : ∃ A, A = progS gs l k := ⟨_, rfl⟩
  rw [← hA] at Bb ow hnear hal hmade hnext
  obtain ⟨hn1, hn2⟩ := hnear
  obtain ⟨wa, wc, rfl, q1, q2⟩ := ow.sl
  have Bb1 := Bb.1
  have B11 := B1.1
  have zz := st'.ge.sz
  have hMk : MkB u' h' b gs (.slice ga gs.length gc) A.2 := ⟨Bb, ig.mono st'.ge, by omega, by omega⟩
  by_cases hlt : k < n
  case neg =>
    obtain rfl : k = n := by omega
    have fin : ∀ (σ2 : Env), σ2 3 = σ 3 → σ2 4 = σ 4 → wpS G_Makes pmT (retQ ParseMakes_E (callK K KP)) σ2 h' := by
      intro σ2 f3 f4
      exact pmT_ok (f3.trans e3) (f4.trans e4) hMk (by omega) ow.isSl (hG.mono st'.ge) (fun c q => (hwb c q).1) hmade (fun u2 h2 s2 => hK _ _ (st'.trans s2 (fun c hc q => by omega)))
    by_cases hkt : k < l.length
    · simp (disch := first | omega | (simp only [e_ssz, e_psz, e_hszs, List.length_cons, List.length_nil]; try omega; done)) only [↓reduceIte, go_sem, ParseMakes_L1, e1, e5, B1.at, B1.2.1, hkt, eq_false (show ¬ (k : Int) < 40 by omega)]
      exact fin _ (by simp [upd]) (by simp [upd])
    · simp (disch := first | omega | (simp only [e_ssz, e_psz, e_hszs, List.length_cons, List.length_nil]; try omega; done)) only [↓reduceIte, go_sem, ParseMakes_L1, e1, e5, B1.at, B1.2.1, eq_false (show ¬ (k : Int) < (l.length : Nat) by omega)]
      exact fin _ (by simp [upd]) (by simp [upd])
  have hkt : k < l.length := by omega
  obtain ⟨x, hx⟩ : ∃ x, l[k]? = some x := ⟨l[k], by simp [hkt]⟩
  obtain ⟨hxa, hxb⟩ := hl x (List.mem_of_getElem? hx)
  have hgd : l.getD k noCC = x := by rw [List.getD_eq_getElem?_getD, hx]; rfl
  rw [hgd] at hnext
  have il2 := il.mono st'.ge
  obtain ⟨pb, po, rfl, hpb, hpu, hpz, hpr⟩ := il2.row k x hx
  obtain ⟨xv, xw, hpr, ixv, ixw⟩ := rep_CC hpr
  obtain ⟨xa, xc, rfl, -, -⟩ := ixv.sl
  obtain ⟨xb, xd, rfl, -, -⟩ := ixw.sl
  simp only [sz_CC, hvs_3, List.cons.injEq, and_true] at hpr hpu hpz
  obtain ⟨p0, p1, p2⟩ := hpr
  obtain ⟨h6, h7, u7, hh6, hh7, D6, E6, s7, hz7⟩ := boxed u' h' [.int .i64 0, .slice none 0 0, .slice none 0 0] [.int .i64 x.1.1, .slice xa x.1.2.length xc, .slice xb x.2.length xd] 49 rfl
  have D61 := D6.1
  have E61 := E6.1
  obtain ⟨o6, ho6⟩ : ∃ o, o = h'.size := ⟨_, rfl⟩
  rw [← ho6] at D6 D61 E6 E61 hh7
  rw [pmL_cut]
  simp (disch := first | omega | (simp only [e_ssz, e_psz, e_hszs, List.length_cons, List.length_nil]; try omega; done)) only [↓reduceIte, go_sem, pmB, sF, sS, sBk, ParseMakes_L1, e1, e3, e5, B1.at, B1.2.1, hkt, eq_true (show (k : Int) < 40 by omega), p0, p1, p2, ← hh6, ← ho6, ← hh7, D6.2.1, D6.2.2.1, E6.at, E6.2.1]
  refine effS_call (.inr (.inl ⟨rfl, u7, b, gs, _, false, x.1, _, A.2, rfl, hMk.step0 s7, by omega, ixv.mono s7.ge, hxa, (hP.mono st'.ge).mono s7.ge, fun u8 h8 w8 s8 W8 O8 => ⟨by simp (disch := first | omega | (simp only [e_ssz, e_psz, e_hszs, List.length_cons, List.length_nil]; try omega; done)) only [go_sem], ?_⟩⟩))
  obtain ⟨at', hat⟩ : ∃ y, y = (mkAtom gs false x.1 A.2).1 := ⟨_, rfl⟩
  obtain ⟨st1, hst1⟩ : ∃ y, y = (mkAtom gs false x.1 A.2).2 := ⟨_, rfl⟩
  have hna := atom_near (gs := gs) (gr := false) (st := A.2) hxa
  rw [← hst1] at hna
  have hna1 := hna.1
  have hna2 := hna.2
  rw [← hat] at O8 ⊢
  rw [← hst1] at W8
  obtain ⟨ya, yc, rfl, -, -⟩ := O8.sl
  have z7 := s7.ge.sz
  have z8 := s8.ge.sz
  obtain ⟨h9, h10, u10, hh9, hh10, D7, E7, s10, hz10⟩ := boxed u8 h8 [str [], .slice none 0 0, .int .i64 0, .slice none 0 0] [str at'.1, .slice ya at'.2.1.length yc, .int .i64 at'.2.2, .slice none 0 0] 56 rfl
  have D71 := D7.1
  have E71 := E7.1
  obtain ⟨o7, ho7⟩ : ∃ o, o = h8.size := ⟨_, rfl⟩
  rw [← ho7] at D7 D71 E7 E71 hh10
  have F6 := (E6.step s8 (by omega)).step0 s10
  have F61 := F6.1
  have Wb := W8.step0 s10
  have iv10 := O8.isSl.mono s10.ge
  have ixw10 := ((ixw.mono s7.ge).mono s8.ge).mono s10.ge
  have ow10 := ((ow.step0 s7).step s8 (fun c qc q => (hwb c qc).1 q)).step0 s10
  have B110 := ((B1.step0 s7).step s8 (by omega)).step0 s10
  have st10 : Step S0 u h u10 h10 := ((st'.trans0 s7).trans s8 (fun c hc q => by omega)).trans0 s10
  have ig10 := ig.mono st10.ge
  have z10 := s10.ge.sz
  simp (disch := first | omega | (simp only [e_ssz, e_psz, e_hszs, List.length_cons, List.length_nil]; try omega; done)) only [↓reduceIte, go_sem, ← hh9, ← ho7, ← hh10, D7.2.1, D7.2.2.1]
  rw [pmC_cut]
  -- behind the clause's parts
  have rest : ∀ (Q : Post) (σ2 : Env) (u2 : U) (h2 : H) (st2 : MS) (bv : Value) (bd : List LitT), (∀ i, i < 8 → σ2 i = (if i = 6 then .pointer (some ⟨o6, 0, none⟩) else if i = 7 then .pointer (some ⟨o7, 0, none⟩) else σ i)) → Step (fun c => c = b ∨ c = o7) u10 h10 u2 h2 → Blk u2 h2 b [str st2.1, .slice ga gs.length gc, .int .i64 (st2.2 : Nat)] → (st2.1.length ≤ 9000000 ∧ st2.2 ≤ 900000) →
      Blk u2 h2 o7 [str at'.1, .slice ya at'.2.1.length yc, .int .i64 at'.2.2, bv] → IsSl u2 h2 bv bd → (∀ c, OwnB (.slice wa A.1.length wc) c → c ≠ o7) → mkClause gs x A.2 = ((at', bd), putS gs st2 [46]) →
      (∀ σ3 h3, σ3 5 = .int .i64 (k : Nat) → (∀ j : Int, I (k + 1) (upd (upd σ3 24 (.int .i64 j)) 5 (.int .i64 ((k + 1 : Nat) : Int))) h3) → Q .normal σ3 h3) → wpS G_Makes pmE Q σ2 h2 := by
    intro Q σ2 u2 h2 st2 bv bd hσ2 s2 Wb2 hb2 D72 ib2 hno hmk hQ
    rw [hmk] at hnext
    have f := fun i (hi : i < 8) => hσ2 i hi
    have f3 : σ2 3 = .pointer (some ⟨b, 0, none⟩) := by rw [f 3 (by omega)]; exact e3
    have f4 : σ2 4 = .slice wa A.1.length wc := by rw [f 4 (by omega)]; exact e4
    have f7 : σ2 7 = .pointer (some ⟨o7, 0, none⟩) := by rw [f 7 (by omega)]; rfl
    have hz2 := s2.ge.sz
    refine pmE_ok (b := b) (o7 := o7) (z := h.size) (bd := bd) f3 f4 f7 ⟨Wb2, ig10.mono s2.ge, by omega, by omega⟩ D72 (by omega) (iv10.mono s2.ge) ib2 (ow10.step s2 (fun c qc q => q.elim (hwb c qc).1 (hno c qc))) (fun c qc => (hwb c qc).1) (by omega) (by omega) ?_
    intro σ3 u3 h3 w3 hσ3 e43 s3 W3 O3 hO3
    have g := fun i (hi : i < 6) (h4 : i ≠ 4) => (hσ3 i hi h4).trans (f i (by omega))
    refine hQ σ3 h3 (by rw [g 5 (by omega) (by omega)]; exact e5) (fun j => ?_)
    rw [hI]
    have s3' : Step S0 u h u3 h3 := (st10.trans s2 (fun c hc q => by omega)).trans s3 (fun c hc q => q.elim (fun q => by omega) (fun q => by have := ow.ge q; omega))
    have hb1n : ¬ (b1 = b ∨ OwnB (.slice wa A.1.length wc) b1) := by
      rintro (q | q)
      · omega
      · exact (hwb _ q).2 rfl
    refine ⟨u3, w3, by simp [upd, g 1 (by omega) (by omega), e1], by simp [upd, g 3 (by omega) (by omega), e3], by simp [upd, e43], by simp [upd], hlt, s3', (B110.step s2 (by omega)).step s3 hb1n, by rw [hnext]; exact W3, by rw [hnext]; exact O3, fun c q => (hO3 c q).elim (hwb c) (fun q => by omega)⟩
  have hno : ∀ c, OwnB (.slice wa A.1.length wc) c → c ≠ o7 := fun c q => by have := ow.lt q; omega
  by_cases h0 : x.2.length = 0
  · simp (disch := first | omega | (simp only [e_ssz, e_psz, e_hszs, List.length_cons, List.length_nil]; try omega; done)) only [↓reduceIte, go_sem, pmC, pmB, sF, sS, sBk, ParseMakes_L1, F6.at, F6.2.1, eq_false (show ¬ (0 : Int) < (x.2.length : Nat) by omega)]
    refine rest _ _ u10 h10 st1 (.slice none 0 0) [] (fun i hi => ?_) (Step.refl _ _ _) Wb (by omega) E7 (.nil _ _) hno (by unfold mkClause; rw [if_pos h0, ← hat, ← hst1]) ?_
    · simp only [upd]
      repeat' split
      all_goals first
        | rfl
        | omega
    intro σ3 h3 e53 hI3
    simp (disch := first | omega | (simp only [e_ssz, e_psz, e_hszs, List.length_cons, List.length_nil]; try omega; done)) only [↓reduceIte, go_sem, e53]
    exact ⟨k + 1, hI3 _, by omega⟩
  · simp (disch := first | omega | (simp only [e_ssz, e_psz, e_hszs, List.length_cons, List.length_nil]; try omega; done)) only [↓reduceIte, go_sem, pmC, pmB, sF, sS, sBk, ParseMakes_L1, F6.at, F6.2.1, eq_true (show (0 : Int) < (x.2.length : Nat) by omega), e3]
    refine effS_call (.inl ⟨rfl, u10, b, gs, _, st1, [58, 45], rfl, ⟨Wb, ig10, by omega, by omega⟩, by decide, fun h11 s11 W11 => ⟨by simp (disch := first | omega | (simp only [e_ssz, e_psz, e_hszs, List.length_cons, List.length_nil]; try omega; done)) only [go_sem], ?_⟩⟩)
    obtain ⟨st2, hst2⟩ : ∃ y, y = putS gs st1 [58, 45] := ⟨_, rfl⟩
    have hnp := put_near (gs := gs) st1 [58, 45]
    rw [← hst2] at hnp W11
    have hnp1 := hnp.1
    have hnp2 := hnp.2
    simp only [List.length_cons, List.length_nil] at hnp1
    have F611 := F6.step s11 (by omega)
    have F6111 := F611.1
    have E711 := E7.step s11 (by omega)
    have z11 := s11.ge.sz
    simp (disch := first | omega | (simp only [e_ssz, e_psz, e_hszs, List.length_cons, List.length_nil]; try omega; done)) only [↓reduceIte, go_sem, e3, F611.at, F611.2.1]
    refine effS_call (.inr (.inr (.inl ⟨rfl, u10, b, gs, _, x.2, _, st2, rfl, ⟨W11, ig10.mono s11.ge, by omega, by omega⟩, by omega, ixw10.mono s11.ge, hxb, ((((hP.mono st'.ge).mono s7.ge).mono s8.ge).mono s10.ge).mono s11.ge, fun u12 h12 w12 s12 W12 O12 hO12 => ⟨by simp (disch := first | omega | (simp only [e_ssz, e_psz, e_hszs, List.length_cons, List.length_nil]; try omega; done)) only [go_sem], ?_⟩⟩)))
    have hnb := body_near (gs := gs) (st := st2) hxb
    obtain ⟨bd, hbd⟩ : ∃ y, y = (mkBody gs x.2 st2).1 := ⟨_, rfl⟩
    obtain ⟨st3, hst3⟩ : ∃ y, y = (mkBody gs x.2 st2).2 := ⟨_, rfl⟩
    rw [← hst3] at hnb W12
    rw [← hbd] at O12
    have hnb1 := hnb.1
    have hnb2 := hnb.2
    obtain ⟨va, vc, rfl, -, -⟩ := O12.sl
    have z12 := s12.ge.sz
    have E712 := E711.step s12 (by omega)
    have E7121 := E712.1
    have E713 := E712.set (i := 3) (v := .slice va bd.length vc) (by simp)
    have s13 := Step.set (S := fun c => c = o7) u12 h12 (b := o7) (o := 3) (.slice va bd.length vc) rfl (by rw [E712.2.2.2.1]; exact Nat.zero_le _)
    obtain ⟨h13, hh13⟩ : ∃ h13, h13 = hset h12 o7 3 (.slice va bd.length vc) := ⟨_, rfl⟩
    rw [← hh13] at E713 s13
    simp only [List.set_cons_succ, List.set_cons_zero] at E713
    simp (disch := first | omega | (simp only [e_ssz, e_psz, e_hszs, List.length_cons, List.length_nil]; try omega; done)) only [↓reduceIte, go_sem, E712.2.1, E712.2.2.1, ← hh13]
    refine rest _ _ u12 h13 st3 (.slice va bd.length vc) bd (fun i hi => ?_) (((s11.trans s12 (fun c _ q => q)).mono (fun c _ q => .inl q)).trans s13 (fun c _ q => .inr q)) (W12.step s13 (by omega)) (by omega) E713 ((O12.step s13 (fun c qc q => by have := O12.ge qc; omega)).isSl) hno (by unfold mkClause; rw [if_neg h0, ← hat, ← hst1, ← hst2, ← hbd, ← hst3]) ?_
    · simp only [upd]
      repeat' split
      all_goals first
        | rfl
        | omega
    intro σ3 h3 e53 hI3
    simp (disch := first | omega | (simp only [e_ssz, e_psz, e_hszs, List.length_cons, List.length_nil]; try omega; done)) only [↓reduceIte, go_sem, e53]
    exact ⟨k + 1, hI3 _, by omega⟩
theorem ParseMakes_hc {cv gv : Value} {l : List CC} {gs : List Int} {h : H} (hc : IsSl (hsz h) h cv l) (hg : IsSl (hsz h) h gv gs) (hl : ∀ c ∈ l, OkCC c) (hG : LxG (hsz h) h) (hP : PowG (hsz h) h) : HCX Tryd.prog 5 [.agg #[cv, gv]] h (fun v h' => v = .bool true ∧ Ext0 h h') fun _ _ => False :=
  ParseMakes_ok ⟨hsz h, cv, gv, l, gs, rfl, hc, hg, hl, hG, hP, fun u' h' st => ⟨rfl, st.ext⟩⟩
end Go.Proofs.YtmnfhmbmifompaaDoor
