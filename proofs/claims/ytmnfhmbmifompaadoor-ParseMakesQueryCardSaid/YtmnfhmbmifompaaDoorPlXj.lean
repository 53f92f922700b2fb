/- The law ParseMakesQuery. -/
import Derived.Test.YtmnfhmbmifompaaDoorPlXh
import Derived.Test.YtmnfhmbmifompaaDoorPlG
import Derived.Test.YtmnfhmbmifompaaDoorPlX3
namespace Go.Proofs.YtmnfhmbmifompaaDoor
open Go Go.Ev Edict
def C_pQryM (vs : List Value) (h : H) (K : Value → H → Prop) : Prop := ∃ (u : U) (src : List UInt8), vs = [str src] ∧ src.length ≤ 9223372036854775807 ∧ LxG u h ∧ ∀ u' h' w, Step S0 u h u' h' → Own h.size u' h' w (resQry src).1 → K (.tuple #[w, fltV (resQry src).2]) h'
theorem psQryM_ok {vs : List Value} {h : H} {K : Value → H → Prop} {KP : List PanicEntry → H → Prop} (hC : C_pQryM vs h K) : HCX Tryd.prog 36 vs h K KP := by
  obtain ⟨u, src, rfl, hl, hG, hK⟩ := hC
  refine psQuery_ok ⟨u, src, rfl, hl, hG, fun e he u' h' s => ?_, fun a ha u' h' w s o => ?_⟩
  · have hr : resQry src = ([], e) := by unfold resQry; rw [he]
    rw [hr] at hK
    exact hK u' h' _ s (.nil _ _ _)
  · have hr : resQry src = (a, (0, 0)) := by unfold resQry; rw [ha]
    rw [hr] at hK
    exact hK u' h' _ s o
def G_MakesQ : Ctr := fun f vs h K _ => (f = 26 ∧ C_put vs h K) ∨ (f = 27 ∧ C_mbody vs h K) ∨ (f = 36 ∧ C_pQryM vs h K) ∨ (f = 37 ∧ C_sBody vs h K) ∨ (f = 29 ∧ C_taken vs h K)
theorem G_MakesQ_ok : GOk Tryd.prog G_MakesQ := by
  rintro f vs h K KP (⟨rfl, hC⟩ | ⟨rfl, hC⟩ | ⟨rfl, hC⟩ | ⟨rfl, hC⟩ | ⟨rfl, hC⟩)
  · exact plPut_ok hC
  · exact plMBody_ok hC
  · exact psQryM_ok hC
  · exact plSameBody_ok hC
  · exact plTaken_ok hC
def pqB : S := sBk (sF (sS ParseMakesQuery_L1))
def pqC : S := sS pqB
theorem pqL_cut : ParseMakesQuery_L1 = .seq (sF ParseMakesQuery_L1) (.seq (.block 1 (.seq (sF pqB) pqC)) (sS (sS ParseMakesQuery_L1))) := rfl
def pqD : S := sS (sS (sS (sS pqC)))
theorem pqC_cut : pqC = .seq (sF pqC) (.seq (sF (sS pqC)) (.seq (sF (sS (sS pqC))) (.seq (sF (sS (sS (sS pqC)))) pqD))) := rfl
/-- The text is read and the answer looked at. -/
theorem pqD_ok {Q : Post} {σ : Env} {u : U} {h : H} {b : Nat} {gv w : Value} {S : List UInt8} {n : Nat} {ls : List LitT} (e4 : σ 4 = .pointer (some ⟨b, 0, none⟩)) (e5 : σ 5 = w) (W : Blk u h b [str S, gv, .int .i64 (n : Nat)]) (hS : S.length ≤ 10000000) (iw : IsSl u h w ls) (hG : LxG u h)
    (hmade : S.length ≤ 65536 → resQry S = (ls, (0, 0)))
    (hQ : ∀ (σ' : Env) (u' : U) (h' : H), (∀ i, i < 4 → σ' i = σ i) → Step S0 u h u' h' → Q .normal σ' h') : wpS G_MakesQ pqD Q σ h := by
  have hm := mlen'
  have W1 := W.1
  obtain ⟨wa, wc, rfl, n1, n2⟩ := iw.sl
  simp (disch := first | omega | (simp only [e_ssz, e_psz, e_hszs, List.length_cons, List.length_nil]; try omega; done)) only [↓reduceIte, go_sem, pqD, pqC, pqB, sS, sF, sBk, ParseMakesQuery_L1, e4, W.at, W.2.1]
  refine effS_call (.inr (.inr (.inl ⟨rfl, u, S, rfl, by omega, hG, fun u3 h3 w3 s3 o3 => ⟨by simp (disch := first | omega | (simp only [e_ssz, e_psz, e_hszs, List.length_cons, List.length_nil]; try omega; done)) only [go_sem], ?_⟩⟩)))
  obtain ⟨P, hP⟩ : ∃ P, P = resQry S := ⟨_, rfl⟩
  rw [← hP] at o3 hmade ⊢
  obtain ⟨ps, f⟩ := P
  simp only at o3 hmade ⊢
  obtain ⟨a3, c3, rfl, m1, m2⟩ := o3.sl
  simp only [fltV]
  have s4 := Step.push0 S0 u3 h3 #[.int .i64 f.1, .int .i64 0, .int .i64 f.2] 27
  have B7 := Blk.new (u := u3) (h := h3) [.int .i64 f.1, .int .i64 0, .int .i64 f.2] 27
  obtain ⟨h4, hh4⟩ : ∃ h4, h4 = h3.push (.cells #[.int .i64 f.1, .int .i64 0, .int .i64 f.2] 27) := ⟨_, rfl⟩
  obtain ⟨u4, hu4⟩ : ∃ u4, u4 = ub u3 h3.size 0 := ⟨_, rfl⟩
  have B7' : Blk u4 h4 h3.size [.int .i64 f.1, .int .i64 0, .int .i64 f.2] := by rw [hu4, hh4]; exact B7
  rw [← hh4, ← hu4] at s4
  clear B7
  have W4 := (W.step0 s3).step0 s4
  have W41 := W4.1
  have B71 := B7'.1
  have st4 := s3.trans0 s4
  have i4 := o3.isSl.mono s4.ge
  have j4 := iw.mono st4.ge
  have hσ : ∀ (σ' : Env), True := fun _ => trivial
  by_cases h65 : S.length ≤ 65536
  · obtain ⟨rfl, hf⟩ := Prod.mk.inj (hmade h65)
    have hf1 : f.1 = 0 := by rw [hf]
    have hf2 : f.2 = 0 := by rw [hf]
    simp (disch := first | omega | (simp only [e_ssz, e_psz, e_hszs, List.length_cons, List.length_nil]; try omega; done)) only [↓reduceIte, go_sem, ← hh4, e4, e5, W4.at, W4.2.1, B7'.at, B7'.2.1, eq_true (show ((S.length : Nat) : Int) ≤ 65536 by omega), eq_true hf1, eq_true hf2]
    refine effS_call (.inr (.inr (.inr (.inl ⟨rfl, u4, _, _, ps, rfl, i4, j4, fun u7 h7 s7 => ⟨by simp (disch := first | omega | (simp only [e_ssz, e_psz, e_hszs, List.length_cons, List.length_nil]; try omega; done)) only [go_sem], ?_⟩⟩))))
    simp (disch := first | omega | (simp only [e_ssz, e_psz, e_hszs, List.length_cons, List.length_nil]; try omega; done)) only [↓reduceIte, go_sem]
    refine hQ _ _ _ (fun i hi => ?_) (st4.trans0 s7)
    simp [upd, show ¬ i = 47 by omega, show ¬ i = 48 by omega, show ¬ i = 7 by omega, show ¬ i = 6 by omega, show ¬ i = 61 by omega, show ¬ i = 57 by omega, show ¬ i = 64 by omega, show ¬ i = 67 by omega]
  · simp (disch := first | omega | (simp only [e_ssz, e_psz, e_hszs, List.length_cons, List.length_nil]; try omega; done)) only [↓reduceIte, go_sem, ← hh4, e4, W4.at, W4.2.1, B7'.at, eq_false (show ¬ ((S.length : Nat) : Int) ≤ 65536 by omega)]
    refine hQ _ _ _ (fun i hi => ?_) st4
    simp [upd, show ¬ i = 47 by omega, show ¬ i = 48 by omega, show ¬ i = 7 by omega, show ¬ i = 6 by omega, show ¬ i = 61 by omega, show ¬ i = 57 by omega, show ¬ i = 64 by omega, show ¬ i = 67 by omega]
theorem ParseMakesQuery_ok {vs : List Value} {h : H} {K : Value → H → Prop} {KP : List PanicEntry → H → Prop} (hC : C_make vs h K) : HCX Tryd.prog 7 vs h K KP := by
  obtain ⟨u, cv, gv, l, gs, rfl, il, ig, hl, hG, hP, hK⟩ := hC
  have hm := mlen'
  refine ParseMakesQuery_H G_MakesQ G_MakesQ_ok _ ?_
  obtain ⟨la, lc, rfl, n1, n2⟩ := il.sl
  obtain ⟨ga, gc, rfl, n3, n4⟩ := ig.sl
  have s1 := Step.push0 S0 u h #[.slice la l.length lc, .slice ga gs.length gc] 39
  have B1 := Blk.new (u := u) (h := h) [.slice la l.length lc, .slice ga gs.length gc] 39
  obtain ⟨h1, hh1⟩ : ∃ h1, h1 = h.push (.cells #[.slice la l.length lc, .slice ga gs.length gc] 39) := ⟨_, rfl⟩
  obtain ⟨u1, hu1⟩ : ∃ u1, u1 = ub u h.size 0 := ⟨_, rfl⟩
  have B1' : Blk u1 h1 h.size [.slice la l.length lc, .slice ga gs.length gc] := by rw [hu1, hh1]; exact B1
  rw [← hh1, ← hu1] at s1
  clear B1
  have z1 : h1.size = h.size + 1 := by rw [hh1]; simp
  obtain ⟨b1, hb1⟩ : ∃ b, b = h.size := ⟨_, rfl⟩
  rw [← hb1] at B1'
  simp (disch := first | omega | (simp only [e_ssz, e_psz, e_hszs, List.length_cons, List.length_nil]; try omega; done)) only [↓reduceIte, go_sem, ParseMakesQuery_S, ParseMakesQuery_E, ← hh1, ← hb1]
  obtain ⟨n, hn⟩ : ∃ n, n = min l.length 40 := ⟨_, rfl⟩
  obtain ⟨I, hI⟩ : ∃ I : Nat → Env → H → Prop, I = fun k σ h' => ∃ (u' : U), σ 1 = .pointer (some ⟨b1, 0, none⟩) ∧ σ 3 = .int .i64 (k : Nat) ∧ k ≤ n ∧ Step S0 u h u' h' ∧ Blk u' h' b1 [.slice la l.length lc, .slice ga gs.length gc] := ⟨_, rfl⟩
  refine wpS_loop I (fun j => n - j) 0 (by rw [hI]; exact ⟨u1, by simp [upd], by simp [upd], by omega, s1, B1'⟩) ?_
  clear B1' s1 hh1
  intro k σ h' hy
  rw [hI] at hy
  obtain ⟨u', e1, e3, hk, st', B1⟩ := hy
  have B11 := B1.1
  have zz := st'.ge.sz
  by_cases hlt : k < n
  case neg =>
    obtain rfl : k = n := by omega
    by_cases hkt : k < l.length
    · simp (disch := first | omega | (simp only [e_ssz, e_psz, e_hszs, List.length_cons, List.length_nil]; try omega; done)) only [↓reduceIte, go_sem, ParseMakesQuery_L1, e1, e3, B1.at, B1.2.1, hkt, eq_false (show ¬ (k : Int) < 40 by omega)]
      refine effS_call (.inr (.inr (.inr (.inr ⟨rfl, u', rfl, hG.mono st'.ge, fun u8 h8 s8 => ⟨by simp (disch := first | omega | (simp only [e_ssz, e_psz, e_hszs, List.length_cons, List.length_nil]; try omega; done)) only [go_sem], ?_⟩⟩))))
      simp (disch := first | omega | (simp only [e_ssz, e_psz, e_hszs, List.length_cons, List.length_nil]; try omega; done)) only [↓reduceIte, go_sem]
      exact hK _ _ (st'.trans0 s8)
    · simp (disch := first | omega | (simp only [e_ssz, e_psz, e_hszs, List.length_cons, List.length_nil]; try omega; done)) only [↓reduceIte, go_sem, ParseMakesQuery_L1, e1, e3, B1.at, B1.2.1, eq_false (show ¬ (k : Int) < (l.length : Nat) by omega)]
      refine effS_call (.inr (.inr (.inr (.inr ⟨rfl, u', rfl, hG.mono st'.ge, fun u8 h8 s8 => ⟨by simp (disch := first | omega | (simp only [e_ssz, e_psz, e_hszs, List.length_cons, List.length_nil]; try omega; done)) only [go_sem], ?_⟩⟩))))
      simp (disch := first | omega | (simp only [e_ssz, e_psz, e_hszs, List.length_cons, List.length_nil]; try omega; done)) only [↓reduceIte, go_sem]
      exact hK _ _ (st'.trans0 s8)
  have hkt : k < l.length := by omega
  obtain ⟨x, hx⟩ : ∃ x, l[k]? = some x := ⟨l[k], by simp [hkt]⟩
  obtain ⟨-, hxb⟩ := hl x (List.mem_of_getElem? hx)
  have il2 := il.mono st'.ge
  obtain ⟨pb, po, rfl, hpb, hpu, hpz, hpr⟩ := il2.row k x hx
  obtain ⟨xv, xw, hpr, ixv, ixw⟩ := rep_CC hpr
  obtain ⟨xb, xd, rfl, -, -⟩ := ixw.sl
  simp only [sz_CC, hvs_3, List.cons.injEq, and_true] at hpr hpu hpz
  obtain ⟨p0, p1, p2⟩ := hpr
  rw [pqL_cut]
  by_cases h0 : x.2.length = 0
  · simp (disch := first | omega | (simp only [e_ssz, e_psz, e_hszs, List.length_cons, List.length_nil]; try omega; done)) only [↓reduceIte, go_sem, pqB, sF, sS, sBk, ParseMakesQuery_L1, e1, e3, B1.at, B1.2.1, hkt, eq_true (show (k : Int) < 40 by omega), p2, eq_true (show ((x.2.length : Nat) : Int) = 0 by omega)]
    refine ⟨k + 1, ?_, by omega⟩
    rw [hI]
    exact ⟨u', by simp [upd, e1], by simp [upd], hlt, st', B1⟩
  simp (disch := first | omega | (simp only [e_ssz, e_psz, e_hszs, List.length_cons, List.length_nil]; try omega; done)) only [↓reduceIte, go_sem, pqB, sF, sS, sBk, ParseMakesQuery_L1, e1, e3, B1.at, B1.2.1, hkt, eq_true (show (k : Int) < 40 by omega), p2, eq_false (show ¬ ((x.2.length : Nat) : Int) = 0 by omega)]
  rw [pqC_cut]
  have s2 := Step.push0 S0 u' h' #[str [], .slice ga gs.length gc, .int .i64 0] 42
  have B2 := Blk.new (u := u') (h := h') [str [], .slice ga gs.length gc, .int .i64 0] 42
  obtain ⟨h2, hh2⟩ : ∃ h2, h2 = h'.push (.cells #[str [], .slice ga gs.length gc, .int .i64 0] 42) := ⟨_, rfl⟩
  obtain ⟨u2, hu2⟩ : ∃ u2, u2 = ub u' h'.size 0 := ⟨_, rfl⟩
  obtain ⟨b, hb⟩ : ∃ b, b = h'.size := ⟨_, rfl⟩
  have B2' : Blk u2 h2 b [str [], .slice ga gs.length gc, .int .i64 0] := by rw [hu2, hh2, hb]; exact B2
  rw [← hh2, ← hu2] at s2
  clear B2
  have z2 : h2.size = h'.size + 1 := by rw [hh2]; simp
  have st2 := st'.trans0 s2
  have C1 := B1.step0 s2
  have C11 := C1.1
  have ig2 := ig.mono st2.ge
  have p2' : hv h2 pb (po + k * 3 + 2) = .slice xb x.2.length xd := by rw [s2.ge.cl pb hpb _ (by omega)]; exact p2
  have hpz2 : po + k * 3 + 3 ≤ hsz h2 pb := by rw [(s2.ge.hs pb hpb).1]; exact hpz
  simp (disch := first | omega | (simp only [e_ssz, e_psz, e_hszs, List.length_cons, List.length_nil]; try omega; done)) only [↓reduceIte, go_sem, pqC, pqB, sF, sS, sBk, ParseMakesQuery_L1, e1, e3, B1.at, B1.2.1, ← hh2, ← hb, C1.at, C1.2.1, hkt, p2']
  refine effS_call (.inr (.inl ⟨rfl, u2, b, gs, _, x.2, _, ([], 0), rfl, ⟨B2', ig2, by decide, by decide⟩, by decide, ixw.mono s2.ge, hxb, hP.mono st2.ge, fun u4 h4 w4 s4 W4 O4 hO4 => ⟨by simp (disch := first | omega | (simp only [e_ssz, e_psz, e_hszs, List.length_cons, List.length_nil]; try omega; done)) only [go_sem], ?_⟩⟩))
  have hnb := body_near (gs := gs) (st := ([], 0)) hxb
  have hqm := query_made (gs := gs) hxb (by omega)
  obtain ⟨ls, hls⟩ : ∃ y, y = (mkBody gs x.2 ([], 0)).1 := ⟨_, rfl⟩
  obtain ⟨st3, hst3⟩ : ∃ y, y = (mkBody gs x.2 ([], 0)).2 := ⟨_, rfl⟩
  rw [← hst3] at hnb W4 hqm
  rw [← hls] at O4 hqm
  have hnb1 := hnb.1
  have hnb2 := hnb.2
  simp only [List.length_nil] at hnb1 hnb2
  obtain ⟨va, vc, rfl, -, -⟩ := O4.sl
  have z4 := s4.ge.sz
  have ig4 := ig2.mono s4.ge
  simp (disch := first | omega | (simp only [e_ssz, e_psz, e_hszs, List.length_cons, List.length_nil]; try omega; done)) only [↓reduceIte, go_sem]
  refine effS_call (.inl ⟨rfl, u4, b, gs, _, st3, [46], rfl, ⟨W4, ig4, by omega, by omega⟩, by decide, fun h5 s5 W5 => ⟨by simp (disch := first | omega | (simp only [e_ssz, e_psz, e_hszs, List.length_cons, List.length_nil]; try omega; done)) only [go_sem], ?_⟩⟩)
  have hnp := put_near (gs := gs) st3 [46]
  obtain ⟨st5, hst5⟩ : ∃ y, y = putS gs st3 [46] := ⟨_, rfl⟩
  rw [← hst5] at hnp W5 hqm
  have hnp1 := hnp.1
  have hnp2 := hnp.2
  simp only [List.length_cons, List.length_nil] at hnp1
  simp (disch := first | omega | (simp only [e_ssz, e_psz, e_hszs, List.length_cons, List.length_nil]; try omega; done)) only [↓reduceIte, go_sem]
  refine effS_call (.inl ⟨rfl, u4, b, gs, _, st5, [], rfl, ⟨W5, ig4.mono s5.ge, by omega, by omega⟩, by decide, fun h6 s6 W6 => ⟨by simp (disch := first | omega | (simp only [e_ssz, e_psz, e_hszs, List.length_cons, List.length_nil]; try omega; done)) only [go_sem], ?_⟩⟩)
  obtain ⟨S, hS⟩ : ∃ S, S = st5.1 ++ gapK gs st5.2 := ⟨_, rfl⟩
  have hgl := gapK_len gs st5.2
  have hSl : S.length ≤ 10000000 := by rw [hS, List.length_append]; omega
  have W6' : Blk u4 h6 b [str S, .slice ga gs.length gc, .int .i64 ((putS gs st5 []).2 : Nat)] := by rw [hS]; have := W6; simp only [putS, List.append_nil] at this; exact this
  rw [← hS] at hqm
  have s46 := (s4.trans s5 (fun c _ q => q)).trans s6 (fun c _ q => q)
  have st6 : Step S0 u h u4 h6 := st2.trans s46 (fun c hc q => by omega)
  have hO46 : IsSl u4 h6 (.slice va ls.length vc) ls := ((O4.step s5 (fun c qc q => hO4 c qc q)).step s6 (fun c qc q => hO4 c qc q)).isSl
  have C6 := C1.step s46 (by omega)
  simp (disch := first | omega | (simp only [e_ssz, e_psz, e_hszs, List.length_cons, List.length_nil]; try omega; done)) only [go_sem]
  refine pqD_ok (b := b) (S := S) (ls := ls) (by simp [upd]) (by simp [upd]) W6' hSl hO46 (hG.mono st6.ge) hqm ?_
  intro σ' u7 h7 hσ s7
  have g1 : σ' 1 = .pointer (some ⟨b1, 0, none⟩) := by rw [hσ 1 (by omega)]; simp [upd, e1]
  have g3 : σ' 3 = .int .i64 (k : Nat) := by rw [hσ 3 (by omega)]; simp [upd, e3]
  simp (disch := first | omega | (simp only [e_ssz, e_psz, e_hszs, List.length_cons, List.length_nil]; try omega; done)) only [↓reduceIte, go_sem, g3]
  refine ⟨k + 1, ?_, by omega⟩
  rw [hI]
  exact ⟨u7, by simp [upd, g1], by simp [upd], hlt, st6.trans0 s7, C6.step0 s7⟩
theorem ParseMakesQuery_hc {cv gv : Value} {l : List CC} {gs : List Int} {h : H} (hc : IsSl (hsz h) h cv l) (hg : IsSl (hsz h) h gv gs) (hl : ∀ c ∈ l, OkCC c) (hG : LxG (hsz h) h) (hP : PowG (hsz h) h) : HCX Tryd.prog 7 [.agg #[cv, gv]] h (fun v h' => v = .bool true ∧ Ext0 h h') fun _ _ => False :=
  ParseMakesQuery_ok ⟨hsz h, cv, gv, l, gs, rfl, hc, hg, hl, hG, hP, fun u' h' st => ⟨rfl, st.ext⟩⟩
end Go.Proofs.YtmnfhmbmifompaaDoor
