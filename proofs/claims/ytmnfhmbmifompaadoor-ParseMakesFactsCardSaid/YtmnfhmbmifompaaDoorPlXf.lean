/- The maker's terms and atoms, walked. -/
import Derived.Test.YtmnfhmbmifompaaDoorPlXe
namespace Go.Proofs.YtmnfhmbmifompaaDoor
open Go Go.Ev Edict
def C_intOf (vs : List Value) (h : H) (K : Value → H → Prop) : Prop := ∃ (u : U) (n : Int), vs = [.int .i64 n] ∧ OkI n ∧ PowG u h ∧ ∀ u' h', Step S0 u h u' h' → K (str (intS n)) h'
def C_mterm (vs : List Value) (h : H) (K : Value → H → Prop) : Prop := ∃ (u : U) (b : Nat) (gs : List Int) (gv : Value) (st : MS) (t : TT), vs = [.pointer (some ⟨b, 0, none⟩), .agg #[.int .i64 t.1, .int .i64 t.2]] ∧ MkB u h b gs gv st ∧ OkI t.2 ∧ PowG u h ∧
  ∀ u' h', Step (fun c => c = b) u h u' h' → Blk u' h' b [str (mkTerm gs t st).2.1, gv, .int .i64 ((mkTerm gs t st).2.2 : Nat)] → K (.agg #[.int .i64 (mkTerm gs t st).1.1, .int .i64 (mkTerm gs t st).1.2.1, str (mkTerm gs t st).1.2.2.1, .int .i64 (mkTerm gs t st).1.2.2.2]) h'
def G_mterm : Ctr := fun f vs h K _ => (f = 45 ∧ C_mod vs h K) ∨ (f = 95 ∧ C_intOf vs h K) ∨ (f = 64 ∧ C_nmS nameS vs h K) ∨ (f = 96 ∧ C_textOf vs h K) ∨ (f = 97 ∧ C_nmS varS vs h K) ∨ (f = 26 ∧ C_put vs h K)
theorem G_mterm_ok : GOk Tryd.prog G_mterm := by
  rintro f vs h K KP (⟨rfl, hC⟩ | ⟨rfl, hC⟩ | ⟨rfl, hC⟩ | ⟨rfl, hC⟩ | ⟨rfl, hC⟩ | ⟨rfl, hC⟩)
  · exact plMod_ok hC
  · exact plIntOf_ok hC
  · exact plNameOf_ok hC
  · exact plTextOf_ok hC
  · exact plVarOf_ok hC
  · exact plPut_ok hC
theorem plMTerm_ok {vs : List Value} {h : H} {K : Value → H → Prop} {KP : List PanicEntry → H → Prop} (hC : C_mterm vs h K) : HCX Tryd.prog 65 vs h K KP := by
  obtain ⟨u, b, gs, gv, st, t, rfl, hMk, ht, hP, hK⟩ := hC
  have hm := mlen'
  have B1 := hMk.1.1
  refine plMTerm_H G_mterm G_mterm_ok _ _ ?_
  obtain ⟨u2, s2, D3, D4⟩ := two_new (u := u) (h := h) [.int .i64 t.1, .int .i64 t.2] [.int .i64 0, .int .i64 0, str [], .int .i64 0] 125 87
  obtain ⟨h2, hh2⟩ : ∃ h2, h2 = (h.push (.cells #[.int .i64 t.1, .int .i64 t.2] 125)).push (.cells #[.int .i64 0, .int .i64 0, str [], .int .i64 0] 87) := ⟨_, rfl⟩
  rw [← hh2] at s2 D3 D4
  have hM2 := hMk.step0 s2
  have hP2 := hP.mono s2.ge
  have D31 := D3.1
  have D41 := D4.1
  simp (disch := first | omega | (simp only [e_ssz, e_psz, e_hszs, List.length_cons, List.length_nil]; try omega; done)) only [↓reduceIte, go_sem, plMTerm_S, plMTerm_E, ← hh2, D3.at, D3.2.1]
  refine effS_call (.inl ⟨rfl, t.1, 4, rfl, by omega, by simp (disch := first | omega | (simp only [e_ssz, e_psz, e_hszs, List.length_cons, List.length_nil]; try omega; done)) only [go_sem], ?_⟩)
  obtain ⟨r, hr⟩ : ∃ r, r = t.1 % 4 := ⟨_, rfl⟩
  have h4 : r = 0 ∨ r = 1 ∨ r = 2 ∨ r = 3 := by omega
  -- behind the put: the last store
  have fin : ∀ (u4 : U) (h4 h5 : H) (s : List UInt8) (x : TermT), termS t = s → (mkTerm gs t st).1 = x → Step S0 u2 h2 u4 h4 → Step (fun c => c = b) u4 h4 u4 h5 → Blk u4 h5 b [str (putS gs st s).1, gv, .int .i64 ((putS gs st s).2 : Nat)] →
      Blk u4 h5 h.size [.int .i64 t.1, .int .i64 t.2] ∧ Blk u4 h5 (h.size + 1) [.int .i64 0, .int .i64 0, str [], .int .i64 0] ∧ ∀ u6 h6, Step S0 u4 h5 u6 h6 → ∃ h7, h7 = hsets h6 (h.size + 1) 0 [.int .i64 x.1, .int .i64 x.2.1, str x.2.2.1, .int .i64 x.2.2.2] ∧ Blk u6 h6 (h.size + 1) [.int .i64 0, .int .i64 0, str [], .int .i64 0] ∧
        Blk u6 h7 (h.size + 1) [.int .i64 x.1, .int .i64 x.2.1, str x.2.2.1, .int .i64 x.2.2.2] ∧ K (.agg #[.int .i64 x.1, .int .i64 x.2.1, str x.2.2.1, .int .i64 x.2.2.2]) h7 := by
    intro u4 h4 h5 s x hs hx s4 s5 W
    have E3 := (D3.step0 s4).step s5 (by omega)
    have E4 := (D4.step0 s4).step s5 (by omega)
    refine ⟨E3, E4, fun u6 h6 s6 => ?_⟩
    have E46 := E4.step0 s6
    have W7 := E46.sets (l := [.int .i64 x.1, .int .i64 x.2.1, str x.2.2.1, .int .i64 x.2.2.2]) rfl
    have s7 := Step.sets (S := fun c => c = h.size + 1) u6 h6 (b := h.size + 1) (o := 0) [.int .i64 x.1, .int .i64 x.2.1, str x.2.2.1, .int .i64 x.2.2.2] rfl (by rw [E46.2.2.2.1]; exact Nat.zero_le _) (by rw [E46.2.1]; exact Nat.le_refl _)
    refine ⟨_, rfl, E46, W7, ?_⟩
    have hmk : (mkTerm gs t st).2 = putS gs st s := by rw [← hs]; rfl
    have := hK u6 (hsets h6 (h.size + 1) 0 [.int .i64 x.1, .int .i64 x.2.1, str x.2.2.1, .int .i64 x.2.2.2]) ((((s2.trans0 s4).mono (fun c _ q => q.elim)).trans s5 (fun c _ q => q)).trans0 s6 |>.trans s7 (fun c hc q => by omega)) (by rw [hmk]; exact (W.step0 s6).step s7 (by omega))
    rw [hx] at this
    exact this
  rw [← hr]
  rcases h4 with rfl | rfl | rfl | rfl
  · have e1 : termS t = intS t.2 := by unfold termS; rw [if_pos hr.symm]
    have e2 : (mkTerm gs t st).1 = (1, t.2, [], offS gs st) := by show termV t (offS gs st) = _; unfold termV; rw [if_pos hr.symm]
    simp (disch := first | omega | (simp only [e_ssz, e_psz, e_hszs, List.length_cons, List.length_nil]; try omega; done)) only [↓reduceIte, go_sem, D3.at, D3.2.1]
    refine effS_call (.inr (.inl ⟨rfl, u2, t.2, rfl, ht, hP2, fun u4 h4 s4 => ⟨by simp (disch := first | omega | (simp only [e_ssz, e_psz, e_hszs, List.length_cons, List.length_nil]; try omega; done)) only [go_sem], ?_⟩⟩))
    have hil := (intS_ok ht).2.1
    simp (disch := first | omega | (simp only [e_ssz, e_psz, e_hszs, List.length_cons, List.length_nil]; try omega; done)) only [↓reduceIte, go_sem]
    refine effS_call (.inr (.inr (.inr (.inr (.inr ⟨rfl, u4, b, gs, gv, st, intS t.2, rfl, hM2.step0 s4, by omega, fun h5 s5 W => ⟨by simp (disch := first | omega | (simp only [e_ssz, e_psz, e_hszs, List.length_cons, List.length_nil]; try omega; done)) only [go_sem], ?_⟩⟩)))))
    obtain ⟨E3, E4, hfin⟩ := fin u4 h4 h5 _ _ e1 e2 s4 s5 W
    obtain ⟨h7, hh7, E46, W7, hKf⟩ := hfin u4 h5 (Step.refl _ _ _)
    have E31 := E3.1
    have E41 := E4.1
    have W71 := W7.1
    simp only at hh7 W7 hKf
    simp (disch := first | omega | (simp only [e_ssz, e_psz, e_hszs, List.length_cons, List.length_nil]; try omega; done)) only [↓reduceIte, go_sem, E3.at, E3.2.1, E4.2.1, E4.2.2.1, ← hh7, W7.at, W7.2.1]
    exact hKf
  · have e1 : termS t = nameS t.2 := by unfold termS; rw [if_neg (by omega), if_pos hr.symm]
    have e2 : (mkTerm gs t st).1 = (2, 0, nameS t.2, offS gs st) := by show termV t (offS gs st) = _; unfold termV; rw [if_neg (by omega), if_pos hr.symm]
    simp (disch := first | omega | (simp only [e_ssz, e_psz, e_hszs, List.length_cons, List.length_nil]; try omega; done)) only [↓reduceIte, go_sem, D3.at, D3.2.1]
    refine effS_call (.inr (.inr (.inl ⟨rfl, u2, t.2, rfl, hP2, fun u4 h4 s4 => ⟨by simp (disch := first | omega | (simp only [e_ssz, e_psz, e_hszs, List.length_cons, List.length_nil]; try omega; done)) only [go_sem], ?_⟩⟩)))
    have hil : (nameS t.2).length ≤ 64 := (word_shape (name_ok t.2)).1
    simp (disch := first | omega | (simp only [e_ssz, e_psz, e_hszs, List.length_cons, List.length_nil]; try omega; done)) only [↓reduceIte, go_sem]
    refine effS_call (.inr (.inr (.inr (.inr (.inr ⟨rfl, u4, b, gs, gv, st, nameS t.2, rfl, hM2.step0 s4, by omega, fun h5 s5 W => ⟨by simp (disch := first | omega | (simp only [e_ssz, e_psz, e_hszs, List.length_cons, List.length_nil]; try omega; done)) only [go_sem], ?_⟩⟩)))))
    obtain ⟨E3, E4, hfin⟩ := fin u4 h4 h5 _ _ e1 e2 s4 s5 W
    have E31 := E3.1
    have hP5 := (hP2.mono s4.ge).mono s5.ge
    simp (disch := first | omega | (simp only [e_ssz, e_psz, e_hszs, List.length_cons, List.length_nil]; try omega; done)) only [↓reduceIte, go_sem, E3.at, E3.2.1]
    refine effS_call (.inr (.inr (.inl ⟨rfl, u4, t.2, rfl, hP5, fun u6 h6 s6 => ⟨by simp (disch := first | omega | (simp only [e_ssz, e_psz, e_hszs, List.length_cons, List.length_nil]; try omega; done)) only [go_sem], ?_⟩⟩)))
    obtain ⟨h7, hh7, E46, W7, hKf⟩ := hfin u6 h6 s6
    have E41 := E46.1
    have W71 := W7.1
    simp only at hh7 W7 hKf
    simp (disch := first | omega | (simp only [e_ssz, e_psz, e_hszs, List.length_cons, List.length_nil]; try omega; done)) only [↓reduceIte, go_sem, E46.2.1, E46.2.2.1, ← hh7, W7.at, W7.2.1]
    exact hKf
  · have e1 : termS t = textS t.2 := by unfold termS; rw [if_neg (by omega), if_neg (by omega), if_pos hr.symm]
    have e2 : (mkTerm gs t st).1 = (3, 0, textV t.2, offS gs st) := by show termV t (offS gs st) = _; unfold termV; rw [if_neg (by omega), if_neg (by omega), if_pos hr.symm]
    simp (disch := first | omega | (simp only [e_ssz, e_psz, e_hszs, List.length_cons, List.length_nil]; try omega; done)) only [↓reduceIte, go_sem, D3.at, D3.2.1]
    refine effS_call (.inr (.inr (.inr (.inl ⟨rfl, u2, t.2, rfl, hP2, fun u4 h4 s4 => ⟨by simp (disch := first | omega | (simp only [e_ssz, e_psz, e_hszs, List.length_cons, List.length_nil]; try omega; done)) only [go_sem], ?_⟩⟩))))
    have hil : (textS t.2).length ≤ 64 := (text_shape t.2).1
    simp (disch := first | omega | (simp only [e_ssz, e_psz, e_hszs, List.length_cons, List.length_nil]; try omega; done)) only [↓reduceIte, go_sem]
    refine effS_call (.inr (.inr (.inr (.inr (.inr ⟨rfl, u4, b, gs, gv, st, textS t.2, rfl, hM2.step0 s4, by omega, fun h5 s5 W => ⟨by simp (disch := first | omega | (simp only [e_ssz, e_psz, e_hszs, List.length_cons, List.length_nil]; try omega; done)) only [go_sem], ?_⟩⟩)))))
    obtain ⟨E3, E4, hfin⟩ := fin u4 h4 h5 _ _ e1 e2 s4 s5 W
    obtain ⟨h7, hh7, E46, W7, hKf⟩ := hfin u4 h5 (Step.refl _ _ _)
    have E31 := E3.1
    have E41 := E4.1
    have W71 := W7.1
    simp only at hh7 W7 hKf
    simp (disch := first | omega | (simp only [e_ssz, e_psz, e_hszs, List.length_cons, List.length_nil]; try omega; done)) only [↓reduceIte, go_sem, E4.2.1, E4.2.2.1, ← hh7, W7.at, W7.2.1]
    exact hKf
  · have e1 : termS t = varS t.2 := by unfold termS; rw [if_neg (by omega), if_neg (by omega), if_neg (by omega)]
    have e2 : (mkTerm gs t st).1 = (4, 0, varS t.2, offS gs st) := by show termV t (offS gs st) = _; unfold termV; rw [if_neg (by omega), if_neg (by omega), if_neg (by omega)]
    simp (disch := first | omega | (simp only [e_ssz, e_psz, e_hszs, List.length_cons, List.length_nil]; try omega; done)) only [↓reduceIte, go_sem, D3.at, D3.2.1]
    refine effS_call (.inr (.inr (.inr (.inr (.inl ⟨rfl, u2, t.2, rfl, hP2, fun u4 h4 s4 => ⟨by simp (disch := first | omega | (simp only [e_ssz, e_psz, e_hszs, List.length_cons, List.length_nil]; try omega; done)) only [go_sem], ?_⟩⟩)))))
    have hil : (varS t.2).length ≤ 64 := (word_shape (var_ok t.2)).1
    simp (disch := first | omega | (simp only [e_ssz, e_psz, e_hszs, List.length_cons, List.length_nil]; try omega; done)) only [↓reduceIte, go_sem]
    refine effS_call (.inr (.inr (.inr (.inr (.inr ⟨rfl, u4, b, gs, gv, st, varS t.2, rfl, hM2.step0 s4, by omega, fun h5 s5 W => ⟨by simp (disch := first | omega | (simp only [e_ssz, e_psz, e_hszs, List.length_cons, List.length_nil]; try omega; done)) only [go_sem], ?_⟩⟩)))))
    obtain ⟨E3, E4, hfin⟩ := fin u4 h4 h5 _ _ e1 e2 s4 s5 W
    have E31 := E3.1
    have hP5 := (hP2.mono s4.ge).mono s5.ge
    simp (disch := first | omega | (simp only [e_ssz, e_psz, e_hszs, List.length_cons, List.length_nil]; try omega; done)) only [↓reduceIte, go_sem, E3.at, E3.2.1]
    refine effS_call (.inr (.inr (.inr (.inr (.inl ⟨rfl, u4, t.2, rfl, hP5, fun u6 h6 s6 => ⟨by simp (disch := first | omega | (simp only [e_ssz, e_psz, e_hszs, List.length_cons, List.length_nil]; try omega; done)) only [go_sem], ?_⟩⟩)))))
    obtain ⟨h7, hh7, E46, W7, hKf⟩ := hfin u6 h6 s6
    have E41 := E46.1
    have W71 := W7.1
    simp only at hh7 W7 hKf
    simp (disch := first | omega | (simp only [e_ssz, e_psz, e_hszs, List.length_cons, List.length_nil]; try omega; done)) only [↓reduceIte, go_sem, E46.2.1, E46.2.2.1, ← hh7, W7.at, W7.2.1]
    exact hKf
end Go.Proofs.YtmnfhmbmifompaaDoor
