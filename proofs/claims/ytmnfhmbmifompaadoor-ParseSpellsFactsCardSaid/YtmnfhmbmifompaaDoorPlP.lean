/- The law ParseSpellsFacts. -/
import Derived.Test.YtmnfhmbmifompaaDoorPlO
import Derived.Test.YtmnfhmbmifompaaDoorPlZ
namespace Go.Proofs.YtmnfhmbmifompaaDoor
open Go Go.Ev Edict
def C_pQryU (vs : List Value) (h : H) (K : Value → H → Prop) : Prop := ∃ (u : U) (src : List UInt8), vs = [str src] ∧ src.length ≤ 9223372036854775807 ∧ LxG u h ∧ ∀ u' h' w, Step S0 u h u' h' → Own h.size u' h' w (resQry src).1 → K (.tuple #[w, fltV (resQry src).2]) h'
theorem psQryU_ok {vs : List Value} {h : H} {K : Value → H → Prop} {KP : List PanicEntry → H → Prop} (hC : C_pQryU vs h K) : HCX Tryd.prog 36 vs h K KP := by
  obtain ⟨u, src, rfl, hl, hG, hK⟩ := hC
  refine psQuery_ok ⟨u, src, rfl, hl, hG, fun e he u' h' s => ?_, fun a ha u' h' w s o => ?_⟩
  · have hr : resQry src = ([], e) := by unfold resQry; rw [he]
    rw [hr] at hK
    exact hK u' h' _ s (.nil _ _ _)
  · have hr : resQry src = (a, (0, 0)) := by unfold resQry; rw [ha]
    rw [hr] at hK
    exact hK u' h' _ s o
def G_SpF : Ctr := fun f vs h K _ => (f = 31 ∧ C_scan vs h K) ∨ (f = 22 ∧ C_pFacsU vs h K) ∨ (f = 32 ∧ C_refd vs h K) ∨ (f = 29 ∧ C_taken vs h K) ∨ (f = 33 ∧ C_wAtom vs h K) ∨ (f = 34 ∧ C_eat vs h K) ∨ (f = 35 ∧ C_wBody vs h K) ∨ (f = 36 ∧ C_pQryU vs h K)
theorem G_SpF_ok : GOk Tryd.prog G_SpF := by
  rintro f vs h K KP (⟨rfl, hC⟩ | ⟨rfl, hC⟩ | ⟨rfl, hC⟩ | ⟨rfl, hC⟩ | ⟨rfl, hC⟩ | ⟨rfl, hC⟩ | ⟨rfl, hC⟩ | ⟨rfl, hC⟩)
  · exact lxScan_ok hC
  · exact psFacsU_ok hC
  · exact plRefused_ok hC
  · exact plTaken_ok hC
  · exact plWAtom_ok hC
  · exact plEat_ok hC
  · exact plWBody_ok hC
  · exact psQryU_ok hC
def spfT : S := sS (sS (sS (sS (sS ParseSpellsFacts_S))))
theorem spf_cut : ParseSpellsFacts_S = .seq (sF ParseSpellsFacts_S) (.seq (sF (sS ParseSpellsFacts_S)) (.seq (sF (sS (sS ParseSpellsFacts_S))) (.seq (sF (sS (sS (sS ParseSpellsFacts_S)))) (.seq (sF (sS (sS (sS (sS ParseSpellsFacts_S))))) spfT)))) := rfl
def spfU : S := sS (sS (sS spfT))
theorem spf_cut2 : spfT = .seq (sF spfT) (.seq (sF (sS spfT)) (.seq (sF (sS (sS spfT))) spfU)) := rfl
theorem ParseSpellsFacts_ok {vs : List Value} {h : H} {K : Value → H → Prop} {KP : List PanicEntry → H → Prop} (hC : C_law1 vs h K) : HCX Tryd.prog 11 vs h K KP := by
  obtain ⟨u, src, rfl, hl, hG, hK⟩ := hC
  refine ParseSpellsFacts_H G_SpF G_SpF_ok _ ?_
  rw [spf_cut]
  simp (disch := first | omega | (simp only [e_ssz, e_psz, e_hszs, List.length_cons, List.length_nil]; try omega; done)) only [↓reduceIte, go_sem, sF, sS, ParseSpellsFacts_S, ParseSpellsFacts_E]
  refine effS_call (.inl ⟨rfl, u, src, rfl, hl, hG, fun u1 h1 w1 s1 o1 => ⟨by simp (disch := first | omega | (simp only [e_ssz, e_psz, e_hszs, List.length_cons, List.length_nil]; try omega; done)) only [go_sem], ?_⟩⟩)
  have hsp := facs_said src
  have hsq := qry_said src
  have hcl := resFacs_len src
  have hwf := @scan_wf src
  have hLl := scanF_len src
  unfold SaidOk badF at hsp hsq
  obtain ⟨L, hL⟩ : ∃ L, L = (scanF src).1 := ⟨_, rfl⟩
  obtain ⟨c, hc⟩ : ∃ c, c = (scanF src).2.1 := ⟨_, rfl⟩
  obtain ⟨p, hp⟩ : ∃ p, p = (scanF src).2.2 := ⟨_, rfl⟩
  rw [← hL, ← hc, ← hp] at hsp hsq
  rw [← hL] at hwf hLl o1
  rw [← hc, ← hp]
  obtain ⟨a1, c1, rfl, m1, m2⟩ := o1.sl
  simp only [fltE]
  have s2 := Step.push0 S0 u1 h1 #[.int .i64 c, .int .i64 0, .int .i64 (p : Nat)] 27
  have B4 := Blk.new (u := u1) (h := h1) [.int .i64 c, .int .i64 0, .int .i64 (p : Nat)] 27
  obtain ⟨h2, hh2⟩ : ∃ h2, h2 = h1.push (.cells #[.int .i64 c, .int .i64 0, .int .i64 (p : Nat)] 27) := ⟨_, rfl⟩
  obtain ⟨u2, hu2⟩ : ∃ u2, u2 = ub u1 h1.size 0 := ⟨_, rfl⟩
  rw [← hh2, ← hu2] at s2 B4
  have i2 := o1.isSl.mono s2.ge
  have st2 := s1.trans0 s2
  obtain ⟨b4, hb4⟩ : ∃ b4, b4 = h1.size := ⟨_, rfl⟩
  rw [← hb4] at B4
  have hz1 : h.size ≤ b4 := by have := s1.ge.sz; omega
  have tl2 : ∀ (σ : Env) (u' : U) (h' : H) (wb j : Nat), σ 0 = str src → σ 3 = .slice a1 L.length c1 → σ 4 = .pointer (some ⟨b4, 0, none⟩) → σ 7 = .pointer (some ⟨wb, 0, none⟩) → Step S0 u h u' h' → Blk u' h' b4 [.int .i64 c, .int .i64 0, .int .i64 (p : Nat)] → Blk u' h' wb [.slice a1 L.length c1, .int .i64 j, .bool true] → IsSl u' h' (.slice a1 L.length c1) L → wpS G_SpF spfT (retQ ParseSpellsFacts_E (callK K KP)) σ h' := by
    clear hsp hcl
    intro σ u' h' wb j e0 e3 e4 e7 st D W iL
    have tl3 : ∀ (σ : Env) (u9 : U) (h9 : H) (wv j9 : Nat), σ 7 = .pointer (some ⟨wb, 0, none⟩) → σ 14 = .pointer (some ⟨wv, 0, none⟩) → Step S0 u h u9 h9 → Blk u9 h9 wb [.slice a1 L.length c1, .int .i64 j, .bool true] → Blk u9 h9 wv [.slice a1 L.length c1, .int .i64 j9, .bool true] → wpS G_SpF spfU (retQ ParseSpellsFacts_E (callK K KP)) σ h9 := by
      intro σ u9 h9 wv j9 f7 f14 st9 W9 V9
      have W91 := W9.1
      have V91 := V9.1
      simp (disch := first | omega | (simp only [e_ssz, e_psz, e_hszs, List.length_cons, List.length_nil]; try omega; done)) only [↓reduceIte, go_sem, spfU, spfT, sS, ParseSpellsFacts_S, ParseSpellsFacts_E, f7, f14, W9.at, W9.2.1, V9.at, V9.2.1]
      refine effS_call (.inr (.inr (.inr (.inl ⟨rfl, u9, rfl, hG.mono st9.ge, fun u8 h8 s8 => ⟨by simp (disch := first | omega | (simp only [e_ssz, e_psz, e_hszs, List.length_cons, List.length_nil]; try omega; done)) only [go_sem], ?_⟩⟩))))
      simp (disch := first | omega | (simp only [e_ssz, e_psz, e_hszs, List.length_cons, List.length_nil]; try omega; done)) only [↓reduceIte, go_sem]
      exact hK _ _ (st9.trans0 s8)
    rw [spf_cut2]
    simp (disch := first | omega | (simp only [e_ssz, e_psz, e_hszs, List.length_cons, List.length_nil]; try omega; done)) only [go_sem, sF, sS, spfT, ParseSpellsFacts_S, ParseSpellsFacts_E, e0]
    refine effS_call (.inr (.inr (.inr (.inr (.inr (.inr (.inr ⟨rfl, u', src, rfl, hl, hG.mono st.ge, fun u3 h3 w3 s3 o3 => ⟨by simp (disch := first | omega | (simp only [e_ssz, e_psz, e_hszs, List.length_cons, List.length_nil]; try omega; done)) only [go_sem], ?_⟩⟩)))))))
    obtain ⟨P, hP⟩ : ∃ P, P = resQry src := ⟨_, rfl⟩
    rw [← hP] at o3 hsq ⊢
    obtain ⟨ls, f⟩ := P
    simp only at o3 hsq ⊢
    obtain ⟨a3, c3, rfl, n1, n2⟩ := o3.sl
    simp only [fltV]
    obtain ⟨u4, s4, B6, V7⟩ := two_new (u := u3) (h := h3) [.int .i64 f.1, .int .i64 0, .int .i64 f.2] [.slice a1 L.length c1, .int .i64 0, .bool true] 27 72
    obtain ⟨h4, hh4⟩ : ∃ h4, h4 = (h3.push (.cells #[.int .i64 f.1, .int .i64 0, .int .i64 f.2] 27)).push (.cells #[.slice a1 L.length c1, .int .i64 0, .bool true] 72) := ⟨_, rfl⟩
    rw [← hh4] at s4 B6 V7
    have D4 := (D.step0 s3).step0 s4
    have W4 := (W.step0 s3).step0 s4
    have i4 := (iL.mono s3.ge).mono s4.ge
    have j4 := o3.isSl.mono s4.ge
    have st4 := (st.trans0 s3).trans0 s4
    have x4 := D4.1
    have x6 := B6.1
    have x7 := V7.1
    have hz3 := (st.trans0 s3).ge.sz
    have hwb3 : wb < h3.size := (W.step0 s3).1
    rcases hsq with ⟨hne, hcs, href⟩ | ⟨hf, hown, ⟨hl0, hl16⟩, e, hBo, he0⟩
    · have hcs0 : ls.length = 0 := by rw [hcs]; rfl
      simp (disch := first | omega | (simp only [e_ssz, e_psz, e_hszs, List.length_cons, List.length_nil]; try omega; done)) only [↓reduceIte, go_sem, e3, e4, ← hh4, B6.at, B6.2.1, D4.at, D4.2.1, eq_false hne, eq_true (show ((ls.length : Nat) : Int) = 0 by omega)]
      refine effS_call (.inr (.inr (.inl ⟨rfl, u4, _, L, (c, (p : Int)), f, rfl, i4, href, fun u5 h5 s5 => ⟨by simp (disch := first | omega | (simp only [e_ssz, e_psz, e_hszs, List.length_cons, List.length_nil]; try omega; done)) only [go_sem], ?_⟩⟩)))
      have W5 := V7.step0 s5
      have W51 := W5.1
      have W6 := W5.set (i := 2) (v := .bool true) (by simp)
      have s6 := Step.set (S := fun b => b = h3.size + 1) u5 h5 (b := h3.size + 1) (o := 2) (.bool true) rfl (by rw [W5.2.2.2.1]; exact Nat.zero_le _)
      obtain ⟨h6, hh6⟩ : ∃ h6, h6 = hset h5 (h3.size + 1) 2 (.bool true) := ⟨_, rfl⟩
      rw [← hh6] at W6 s6
      simp only [List.set_cons_succ, List.set_cons_zero] at W6
      simp (disch := first | omega | (simp only [e_ssz, e_psz, e_hszs, List.length_cons, List.length_nil]; try omega; done)) only [↓reduceIte, go_sem, W5.2.1, W5.2.2.1, eq_true (show ((ls.length : Nat) : Int) = 0 by omega), ← hh6]
      refine tl3 _ u5 h6 (h3.size + 1) 0 ?_ ?_ ((st4.trans0 s5).trans s6 (fun b hb q => by omega)) ((W4.step0 s5).step s6 (by omega)) W6 <;> simp [upd, e7]
    · have hf1 : f.1 = 0 := by rw [hf]
      have hf2 : f.2 = 0 := by rw [hf]
      have hc0 : c = 0 := (Prod.mk.inj hown).1
      have hV0 : WkB u4 h4 (h3.size + 1) (.slice a1 L.length c1) L 0 := ⟨V7, by omega, i4, hLl⟩
      obtain ⟨wv, hwv⟩ : ∃ wv, wv = h3.size + 1 := ⟨_, rfl⟩
      rw [← hwv] at hV0 V7 x7
      have hwne : wb ≠ wv := by omega
      have hwz : h.size ≤ wv := by omega
      obtain ⟨h5, hh5, s5, hV5⟩ := hV0.good
      simp (disch := first | omega | (simp only [e_ssz, e_psz, e_hszs, List.length_cons, List.length_nil]; try omega; done)) only [↓reduceIte, go_sem, e3, e4, ← hh4, B6.at, B6.2.1, ← hwv, V7.2.1, V7.2.2.1, D4.at, D4.2.1, eq_true hf1, eq_true hf2, eq_true hc0, ← hh5]
      refine effS_call (.inr (.inr (.inr (.inr (.inr (.inr (.inl ⟨rfl, u4, wv, _, L, 0, _, ls, [e], rfl, hV5, j4.mono s5.ge, ⟨hl0, hl16⟩, by rw [List.drop_zero]; exact hBo, hwf, fun u6 h6 v6 i6 s6 hV6 hd6 => ⟨by simp (disch := first | omega | (simp only [e_ssz, e_psz, e_hszs, List.length_cons, List.length_nil]; try omega; done)) only [go_sem], ?_⟩⟩)))))))
      simp (disch := first | omega | (simp only [e_ssz, e_psz, e_hszs, List.length_cons, List.length_nil]; try omega; done)) only [↓reduceIte, go_sem]
      refine effS_call (.inr (.inr (.inr (.inr (.inr (.inl ⟨rfl, u6, wv, _, L, i6, e, [], by rw [he0], hV6, hd6, fun u7 h7 s7 hV7 => ⟨by simp (disch := first | omega | (simp only [e_ssz, e_psz, e_hszs, List.length_cons, List.length_nil]; try omega; done)) only [go_sem], ?_⟩⟩))))))
      have hjl : i6 + 1 = L.length := by
        have q1 := (drop_cons hd6).1
        have q2 := drop_nil (drop_cons hd6).2.2
        omega
      have s567 := (s5.trans s6 (fun _ _ q => q)).trans s7 (fun _ _ q => q)
      have hB7 := hV7.1
      have hB71 := hB7.1
      obtain ⟨h8, hh8, s8, hV8⟩ := hV7.good
      have st8 := (st4.trans s567 (fun b hb q => by omega)).trans s8 (fun b hb q => by omega)
      have W8 := (W4.step s567 hwne).step s8 hwne
      rw [hjl] at hB7
      simp (disch := first | omega | (simp only [e_ssz, e_psz, e_hszs, List.length_cons, List.length_nil]; try omega; done)) only [↓reduceIte, go_sem, e3, hB7.at, hB7.2.1, hB7.2.2.1, ← hh8]
      refine tl3 _ u7 h8 wv (i6 + 1) ?_ ?_ st8 W8 hV8.1 <;> simp [upd, e7]
  simp (disch := first | omega | (simp only [e_ssz, e_psz, e_hszs, List.length_cons, List.length_nil]; try omega; done)) only [↓reduceIte, go_sem, ← hh2, ← hb4]
  refine effS_call (.inr (.inl ⟨rfl, u2, src, rfl, hl, hG.mono st2.ge, fun u3 h3 w3 s3 o3 => ⟨by simp (disch := first | omega | (simp only [e_ssz, e_psz, e_hszs, List.length_cons, List.length_nil]; try omega; done)) only [go_sem], ?_⟩⟩))
  obtain ⟨P, hP⟩ : ∃ P, P = resFacs src := ⟨_, rfl⟩
  rw [← hP] at o3 hsp hcl ⊢
  obtain ⟨fs, f⟩ := P
  simp only at o3 hsp hcl ⊢
  obtain ⟨a3, c3, rfl, n1, n2⟩ := o3.sl
  simp only [fltV]
  obtain ⟨u4, s4, B6, W7⟩ := two_new (u := u3) (h := h3) [.int .i64 f.1, .int .i64 0, .int .i64 f.2] [.slice a1 L.length c1, .int .i64 0, .bool true] 27 72
  obtain ⟨h4, hh4⟩ : ∃ h4, h4 = (h3.push (.cells #[.int .i64 f.1, .int .i64 0, .int .i64 f.2] 27)).push (.cells #[.slice a1 L.length c1, .int .i64 0, .bool true] 72) := ⟨_, rfl⟩
  rw [← hh4] at s4 B6 W7
  have D4 := (B4.step0 s3).step0 s4
  have i4 := (i2.mono s3.ge).mono s4.ge
  have j4 := o3.isSl.mono s4.ge
  have st4 := (st2.trans0 s3).trans0 s4
  have x4 := D4.1
  have x6 := B6.1
  have x7 := W7.1
  have hz3 := (st2.trans0 s3).ge.sz
  have hb43 : b4 < h3.size := (B4.step0 s3).1
  rcases hsp with ⟨hne, hcs, href⟩ | ⟨hf, hown, hok⟩
  · have hcs0 : fs.length = 0 := by rw [hcs]; rfl
    simp (disch := first | omega | (simp only [e_ssz, e_psz, e_hszs, List.length_cons, List.length_nil]; try omega; done)) only [↓reduceIte, go_sem, ← hh4, B6.at, B6.2.1, D4.at, D4.2.1, eq_false hne, eq_true (show ((fs.length : Nat) : Int) = 0 by omega)]
    refine effS_call (.inr (.inr (.inl ⟨rfl, u4, _, L, (c, (p : Int)), f, rfl, i4, href, fun u5 h5 s5 => ⟨by simp (disch := first | omega | (simp only [e_ssz, e_psz, e_hszs, List.length_cons, List.length_nil]; try omega; done)) only [go_sem], ?_⟩⟩)))
    have W5 := W7.step0 s5
    have W51 := W5.1
    have W6 := W5.set (i := 2) (v := .bool true) (by simp)
    have s6 := Step.set (S := fun b => b = h3.size + 1) u5 h5 (b := h3.size + 1) (o := 2) (.bool true) rfl (by rw [W5.2.2.2.1]; exact Nat.zero_le _)
    obtain ⟨h6, hh6⟩ : ∃ h6, h6 = hset h5 (h3.size + 1) 2 (.bool true) := ⟨_, rfl⟩
    rw [← hh6] at W6 s6
    simp only [List.set_cons_succ, List.set_cons_zero] at W6
    simp (disch := first | omega | (simp only [e_ssz, e_psz, e_hszs, List.length_cons, List.length_nil]; try omega; done)) only [↓reduceIte, go_sem, W5.2.1, W5.2.2.1, eq_true (show ((fs.length : Nat) : Int) = 0 by omega), ← hh6]
    refine tl2 _ u5 h6 (h3.size + 1) 0 ?_ ?_ ?_ ?_ ((st4.trans0 s5).trans s6 (fun b hb q => by omega)) ((D4.step0 s5).step s6 (by omega)) W6 ((i4.mono s5.ge).mono s6.ge) <;> simp [upd]
  · have hf1 : f.1 = 0 := by rw [hf]
    have hf2 : f.2 = 0 := by rw [hf]
    have hc0 : c = 0 := (Prod.mk.inj hown).1
    have hW0 : WkB u4 h4 (h3.size + 1) (.slice a1 L.length c1) L 0 := ⟨W7, by omega, i4, hLl⟩
    obtain ⟨wb, hwb⟩ : ∃ wb, wb = h3.size + 1 := ⟨_, rfl⟩
    rw [← hwb] at hW0 W7 x7
    have hwz : h.size ≤ wb := by omega
    have hwb4 : b4 ≠ wb := by omega
    obtain ⟨h5, hh5, s5, hW5⟩ := hW0.good
    simp (disch := first | omega | (simp only [e_ssz, e_psz, e_hszs, List.length_cons, List.length_nil]; try omega; done)) only [↓reduceIte, go_sem, ← hh4, B6.at, B6.2.1, ← hwb, W7.2.1, W7.2.2.1, D4.at, D4.2.1, eq_true hf1, eq_true hf2, eq_true hc0, eq_true (show ((fs.length : Nat) : Int) ≤ 4096 by omega), ← hh5]
    have D5 := D4.step s5 hwb4
    have j5 := j4.mono s5.ge
    have st5 := st4.trans s5 (fun b hb q => by omega)
    obtain ⟨I, hI⟩ : ∃ I : Nat → Env → H → Prop, I = fun k σ h' => ∃ (u' : U) (j : Nat), σ 0 = str src ∧ σ 3 = .slice a1 L.length c1 ∧ σ 4 = .pointer (some ⟨b4, 0, none⟩) ∧ σ 7 = .pointer (some ⟨wb, 0, none⟩) ∧ σ 54 = .slice a3 fs.length c3 ∧ σ 55 = .int .i64 (fs.length : Nat) ∧ σ 56 = .int .i64 k ∧ k ≤ fs.length ∧ Step S0 u h u' h' ∧ Blk u' h' b4 [.int .i64 c, .int .i64 0, .int .i64 (p : Nat)] ∧ WkB u' h' wb (.slice a1 L.length c1) L j ∧ IsSl u' h' (.slice a3 fs.length c3) fs ∧ FactsOk (fs.drop k) (L.drop j) := ⟨_, rfl⟩
    refine wpS_loop I (fun j => fs.length - j) 0 (by rw [hI]; exact ⟨u4, 0, by simp [upd], by simp [upd], by simp [upd], by simp [upd], by simp [upd], by simp [upd], by simp [upd], by omega, st5, D5, hW5, j5, by rw [List.drop_zero, List.drop_zero]; exact hok⟩) ?_
    clear D5 j5 st5 hh5 s5 hW5 hok hh4 B6 W7 D4 i4 j4 st4 x4 x6 x7 s4 s3 o3 hW0
    intro k σ h' hy
    rw [hI] at hy
    obtain ⟨u', j, e0, e3, e4, e7, e54, e55, e56, hk, st, D, hWj, ij, hpo⟩ := hy
    have hz := st.ge.sz
    have hwj := hWj.1.1
    have hDj := D.1
    by_cases hlt : k < fs.length
    case neg =>
      rw [List.drop_eq_nil_of_le (by omega)] at hpo
      obtain ⟨e, he, he0⟩ := hpo
      simp (disch := first | omega | (simp only [e_ssz, e_psz, e_hszs, List.length_cons, List.length_nil]; try omega; done)) only [↓reduceIte, go_sem, ParseSpellsFacts_L1, e7, e55, e56, eq_false (show ¬ (k : Int) < (fs.length : Nat) by omega)]
      refine effS_call (.inr (.inr (.inr (.inr (.inr (.inl ⟨rfl, u', wb, _, L, j, e, [], by rw [he0], hWj, he, fun u6 h6 s6 hW6 => ⟨by simp (disch := first | omega | (simp only [e_ssz, e_psz, e_hszs, List.length_cons, List.length_nil]; try omega; done)) only [go_sem], ?_⟩⟩))))))
      have hjl : j + 1 = L.length := by
        have q1 := (drop_cons he).1
        have q2 := drop_nil (drop_cons he).2.2
        omega
      have hB6 := hW6.1
      have hB61 := hB6.1
      have st6 := st.trans s6 (fun b hb q => by omega)
      have D6 := D.step s6 hwb4
      obtain ⟨h7, hh7, s7, hW7⟩ := hW6.good
      have D7 := D6.step s7 hwb4
      have st7 := st6.trans s7 (fun b hb q => by omega)
      rw [hjl] at hB6
      simp (disch := first | omega | (simp only [e_ssz, e_psz, e_hszs, List.length_cons, List.length_nil]; try omega; done)) only [↓reduceIte, go_sem, e3, e7, hB6.at, hB6.2.1, hB6.2.2.1, ← hh7]
      refine tl2 _ u6 h7 wb (j + 1) ?_ ?_ ?_ ?_ st7 D7 hW7.1 hW7.2.2.1 <;> simp [upd, e0, e3, e4, e7]
    obtain ⟨x, hx⟩ : ∃ x, fs[k]? = some x := ⟨fs[k], by simp [hlt]⟩
    have hdk : fs.drop k = x :: fs.drop (k + 1) := by rw [List.drop_eq_getElem_cons hlt]; congr 1; rw [List.getElem?_eq_getElem hlt] at hx; exact Option.some.inj hx
    rw [hdk] at hpo
    obtain ⟨m, d, n, ⟨h8, hx4⟩, hA, hmd, hd8, hpo2⟩ := hpo
    subst hmd
    obtain ⟨pb, po, rfl, hpb, hpu, hpz, hpr⟩ := ij.row k x hx
    rw [rep_atom] at hpr
    obtain ⟨xv, hpr, ixv⟩ := hpr
    obtain ⟨xa, xc, rfl, -, -⟩ := ixv.sl
    simp only [sz_atom, hvs_3, List.cons.injEq, and_true] at hpr hpu hpz
    obtain ⟨p0, p1, p2⟩ := hpr
    obtain ⟨h6, h7, u7, hh6, hh7, B6, B7, s7, hz7⟩ := boxed u' h' [str [], .slice none 0 0, .int .i64 0] [str x.1, .slice xa x.2.1.length xc, .int .i64 x.2.2] 52 rfl
    have B61 := B6.1
    have B71 := B7.1
    have hW7 := hWj.step0 s7
    have D7 := D.step0 s7
    have st7 := st.trans0 s7
    have ij7 := ij.mono s7.ge
    have ix7 := ixv.mono s7.ge
    have hne : h'.size ≠ wb := by omega
    obtain ⟨b9, hb9⟩ : ∃ b9, b9 = h'.size := ⟨_, rfl⟩
    rw [← hb9] at B6 B61 B7 B71 hne hh7
    have hb9z : h.size ≤ b9 := by omega
    simp (disch := first | omega | (simp only [e_ssz, e_psz, e_hszs, List.length_cons, List.length_nil]; try omega; done)) only [↓reduceIte, go_sem, ParseSpellsFacts_L1, e54, e55, e56, eq_true (show (k : Int) < (fs.length : Nat) by omega), p0, p1, p2, ← hh6, ← hb9, ← hh7, B6.2.1, B6.2.2.1, B7.at, B7.2.1]
    obtain ⟨al, hal⟩ : ∃ al, al = x.2.1 := ⟨_, rfl⟩
    have hx4' : ∀ y ∈ al, y.1 ≠ 4 := by rw [hal]; exact hx4
    have hal8 : al.length ≤ 8 := by rw [hal]; exact h8
    rw [← hal] at ix7 B7
    rw [← hal]
    obtain ⟨J, hJ⟩ : ∃ J : Nat → Env → H → Prop, J = fun m' σ' h'' => ∃ u'', σ' 0 = str src ∧ σ' 3 = .slice a1 L.length c1 ∧ σ' 4 = .pointer (some ⟨b4, 0, none⟩) ∧ σ' 7 = .pointer (some ⟨wb, 0, none⟩) ∧ σ' 9 = .pointer (some ⟨b9, 0, none⟩) ∧ σ' 54 = .slice (some ⟨pb, po, none⟩) fs.length c3 ∧ σ' 55 = .int .i64 (fs.length : Nat) ∧ σ' 56 = .int .i64 k ∧ σ' 61 = .slice xa al.length xc ∧ σ' 62 = .int .i64 (al.length : Nat) ∧ σ' 63 = .int .i64 m' ∧ m' ≤ al.length ∧ Step S0 u h u'' h'' ∧ Blk u'' h'' b4 [.int .i64 c, .int .i64 0, .int .i64 (p : Nat)] ∧ WkB u'' h'' wb (.slice a1 L.length c1) L j ∧ IsSl u'' h'' (.slice (some ⟨pb, po, none⟩) fs.length c3) fs ∧ Blk u'' h'' b9 [str x.1, .slice xa al.length xc, .int .i64 x.2.2] ∧ IsSl u'' h'' (.slice xa al.length xc) al := ⟨_, rfl⟩
    refine wpS_loop J (fun i => al.length - i) 0 (by rw [hJ]; exact ⟨u7, by simp [upd, e0], by simp [upd, e3], by simp [upd, e4], by simp [upd, e7], by simp [upd], by simp [upd, e54], by simp [upd, e55], by simp [upd, e56], by simp [upd], by simp [upd], by simp [upd], by omega, st7, D7, hW7, ij7, B7, ix7⟩) ?_
    clear hh6 hh7 B6 B61 B7 B71 D7 hW7 ij7 ix7 st7 s7 hz7 p0 p1 p2 hpb hpu hpz hb9 hz
    intro m' σ' h'' hy
    rw [hJ] at hy
    obtain ⟨u'', g0, g3, g4, g7, g9, g54, g55, g56, g61, g62, g63, hm', st2, D2, hW2, ij2, B2, ix2⟩ := hy
    have hz2 := st2.ge.sz
    have hwb2 := hW2.1.1
    have hD2 := D2.1
    have hB2 := B2.1
    by_cases hlt2 : m' < al.length
    case neg =>
      simp (disch := first | omega | (simp only [e_ssz, e_psz, e_hszs, List.length_cons, List.length_nil]; try omega; done)) only [↓reduceIte, go_sem, ParseSpellsFacts_L2, g7, g9, g62, g63, eq_false (show ¬ (m' : Int) < (al.length : Nat) by omega), B2.at, B2.2.1]
      refine effS_call (.inr (.inr (.inr (.inr (.inl ⟨rfl, u'', wb, _, L, j, x, _, d :: n, by rw [hal], hW2, by rw [← hal]; exact ix2, h8, hA, hwf, fun u8 h8' v8 i8 s8 hW8 hd8' => ⟨by simp (disch := first | omega | (simp only [e_ssz, e_psz, e_hszs, List.length_cons, List.length_nil]; try omega; done)) only [go_sem], ?_⟩⟩)))))
      simp (disch := first | omega | (simp only [e_ssz, e_psz, e_hszs, List.length_cons, List.length_nil]; try omega; done)) only [↓reduceIte, go_sem, g7]
      refine effS_call (.inr (.inr (.inr (.inr (.inr (.inl ⟨rfl, u8, wb, _, L, i8, d, n, by rw [hd8], hW8, hd8', fun u9 h9 s9 hW9 => ⟨by simp (disch := first | omega | (simp only [e_ssz, e_psz, e_hszs, List.length_cons, List.length_nil]; try omega; done)) only [go_sem], ?_⟩⟩))))))
      have s89 := s8.trans s9 (fun _ _ q => q)
      simp (disch := first | omega | (simp only [e_ssz, e_psz, e_hszs, List.length_cons, List.length_nil]; try omega; done)) only [↓reduceIte, go_sem, g56]
      refine ⟨k + 1, ?_, by omega⟩
      rw [hI]
      refine ⟨u9, i8 + 1, ?_, ?_, ?_, ?_, ?_, ?_, ?_, hlt, st2.trans s89 (fun b hb q => by omega), D2.step s89 hwb4, hW9, ij2.mono s89.ge, by rw [(drop_cons hd8').2.2]; exact hpo2⟩ <;> simp [upd, g0, g3, g4, g7, g54, g55]
    obtain ⟨y, hy⟩ : ∃ y, al[m']? = some y := ⟨al[m'], by simp [hlt2]⟩
    have hy4 := hx4' y (List.mem_of_getElem? hy)
    obtain ⟨qb, qo, rfl, hqb, hqu, hqz, hqr⟩ := ix2.row m' y hy
    rw [rep_term] at hqr
    simp only [termE, sz_term, hvs_4, List.cons.injEq, and_true] at hqr hqu hqz
    obtain ⟨q0, q1, q2, q3⟩ := hqr
    obtain ⟨h5, h6, u6, hh5, hh6, B5, B6, s6, hz6⟩ := boxed u'' h'' [.int .i64 0, .int .i64 0, str [], .int .i64 0] [.int .i64 y.1, .int .i64 y.2.1, str y.2.2.1, .int .i64 y.2.2.2] 87 rfl
    have B51 := B5.1
    have B61 := B6.1
    have hW6 := hW2.step0 s6
    have hB6 := hW6.1
    have hB61 := hB6.1
    obtain ⟨h7, hh7, s7, hW7⟩ := hW6.good
    have s67 : Step (fun b => b = wb) u'' h'' u6 h7 := (s6.mono (fun _ _ q => q.elim)).trans s7 (fun _ _ q => q)
    simp (disch := first | omega | (simp only [e_ssz, e_psz, e_hszs, List.length_cons, List.length_nil]; try omega; done)) only [↓reduceIte, go_sem, ParseSpellsFacts_L2, g7, g61, g62, g63, eq_true (show (m' : Int) < (al.length : Nat) by omega), q0, q1, q2, q3, ← hh5, ← hh6, B5.2.1, B5.2.2.1, B6.at, B6.2.1, eq_false hy4, hB6.at, hB6.2.1, hB6.2.2.1, ← hh7]
    refine ⟨m' + 1, ?_, by omega⟩
    rw [hJ]
    refine ⟨u6, ?_, ?_, ?_, ?_, ?_, ?_, ?_, ?_, ?_, ?_, ?_, hlt2, st2.trans s67 (fun b hb q => by omega), D2.step s67 hwb4, hW7, ij2.mono s67.ge, B2.step s67 hne, ix2.mono s67.ge⟩ <;> simp [upd, g0, g3, g4, g7, g9, g54, g55, g56, g61, g62]
theorem ParseSpellsFacts_hc {s : List UInt8} {h : H} (hl : s.length ≤ 9223372036854775807) (hG : LxG (hsz h) h) : HCX Tryd.prog 11 [str s] h (fun v h' => v = .bool true ∧ Ext0 h h') fun _ _ => False :=
  ParseSpellsFacts_ok ⟨hsz h, s, rfl, hl, hG, fun u' h' st => ⟨rfl, st.ext⟩⟩
end Go.Proofs.YtmnfhmbmifompaaDoor
