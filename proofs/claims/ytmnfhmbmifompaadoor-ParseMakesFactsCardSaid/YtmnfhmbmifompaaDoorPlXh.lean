/- The maker's literals and bodies, walked. -/
import Derived.Test.YtmnfhmbmifompaaDoorPlXg
namespace Go.Proofs.YtmnfhmbmifompaaDoor
open Go Go.Ev Edict
def litA (x : LitT) (w : Value) : List Value := [.int .i64 x.1, str x.2.1.1, w, .int .i64 x.2.1.2.2, .int .i64 x.2.2.1, .int .i64 x.2.2.2.1.1, .int .i64 x.2.2.2.1.2.1, str x.2.2.2.1.2.2.1, .int .i64 x.2.2.2.1.2.2.2, .int .i64 x.2.2.2.2.1.1, .int .i64 x.2.2.2.2.1.2.1, str x.2.2.2.2.1.2.2.1, .int .i64 x.2.2.2.2.1.2.2.2, .int .i64 x.2.2.2.2.2]
def C_mlit (vs : List Value) (h : H) (K : Value → H → Prop) : Prop := ∃ (u : U) (b : Nat) (gs : List Int) (gv : Value) (l : LL) (av : Value) (st : MS), vs = [.pointer (some ⟨b, 0, none⟩), .agg #[.int .i64 l.1, .int .i64 l.2.1.1, av, .int .i64 l.2.2.1, .int .i64 l.2.2.2.1.1, .int .i64 l.2.2.2.1.2, .int .i64 l.2.2.2.2.1, .int .i64 l.2.2.2.2.2]] ∧ MkB u h b gs gv st ∧ (st.1.length ≤ 8000000 ∧ st.2 ≤ 800000) ∧ IsSl u h av l.2.1.2 ∧ OkLL l ∧ PowG u h ∧
  ∀ u' h' w, Step (fun c => c = b) u h u' h' → Blk u' h' b [str (mkLit gs l st).2.1, gv, .int .i64 ((mkLit gs l st).2.2 : Nat)] → Own h.size u' h' w (mkLit gs l st).1.2.1.2.1 → K (.agg (litA (mkLit gs l st).1 w).toArray) h'
def G_mlit : Ctr := fun f vs h K _ => (f = 45 ∧ C_mod vs h K) ∨ (f = 98 ∧ C_opOf vs h K) ∨ (f = 26 ∧ C_put vs h K) ∨ (f = 65 ∧ C_mterm vs h K) ∨ (f = 25 ∧ C_matom vs h K)
theorem G_mlit_ok : GOk Tryd.prog G_mlit := by
  rintro f vs h K KP (⟨rfl, hC⟩ | ⟨rfl, hC⟩ | ⟨rfl, hC⟩ | ⟨rfl, hC⟩ | ⟨rfl, hC⟩)
  · exact plMod_ok hC
  · exact plOpOf_ok hC
  · exact plPut_ok hC
  · exact plMTerm_ok hC
  · exact plMAtom_ok hC
theorem plMLit_ok {vs : List Value} {h : H} {K : Value → H → Prop} {KP : List PanicEntry → H → Prop} (hC : C_mlit vs h K) : HCX Tryd.prog 67 vs h K KP := by
  obtain ⟨u, b, gs, gv, l, av, st, rfl, hM, ⟨hs1, hs2⟩, ia, ⟨hla, hll, hlr⟩, hP, hK⟩ := hC
  have hm := mlen'
  have hM1 := hM.1.1
  refine plMLit_H G_mlit G_mlit_ok _ _ ?_
  obtain ⟨aa, ac, rfl, n1, n2⟩ := ia.sl
  obtain ⟨u2, s2, B3, B4⟩ := two_new (u := u) (h := h) [.int .i64 l.1, .int .i64 l.2.1.1, .slice aa l.2.1.2.length ac, .int .i64 l.2.2.1, .int .i64 l.2.2.2.1.1, .int .i64 l.2.2.2.1.2, .int .i64 l.2.2.2.2.1, .int .i64 l.2.2.2.2.2] (litA (0, noAtom, 0, noTerm, noTerm, 0) (.slice none 0 0)) 132 129
  obtain ⟨h2, hh2⟩ : ∃ h2, h2 = (h.push (.cells #[.int .i64 l.1, .int .i64 l.2.1.1, .slice aa l.2.1.2.length ac, .int .i64 l.2.2.1, .int .i64 l.2.2.2.1.1, .int .i64 l.2.2.2.1.2, .int .i64 l.2.2.2.2.1, .int .i64 l.2.2.2.2.2] 132)).push (.cells #[.int .i64 0, str [], .slice none 0 0, .int .i64 0, .int .i64 0, .int .i64 0, .int .i64 0, str [], .int .i64 0, .int .i64 0, .int .i64 0, str [], .int .i64 0, .int .i64 0] 129) := ⟨_, rfl⟩
  have hh2' : h2 = (h.push (.cells #[.int .i64 l.1, .int .i64 l.2.1.1, .slice aa l.2.1.2.length ac, .int .i64 l.2.2.1, .int .i64 l.2.2.2.1.1, .int .i64 l.2.2.2.1.2, .int .i64 l.2.2.2.2.1, .int .i64 l.2.2.2.2.2] 132)).push (.cells (litA (0, noAtom, 0, noTerm, noTerm, 0) (.slice none 0 0)).toArray 129) := hh2
  rw [← hh2'] at s2 B3 B4
  have z2 : h2.size = h.size + 2 := by rw [hh2]; simp
  have hM2 := hM.step0 s2
  have hP2 := hP.mono s2.ge
  have ia2 := ia.mono s2.ge
  have B31 := B3.1
  have B41 := B4.1
  obtain ⟨o3, ho3⟩ : ∃ o, o = h.size := ⟨_, rfl⟩
  obtain ⟨o4, ho4⟩ : ∃ o, o = o3 + 1 := ⟨_, rfl⟩
  rw [← ho3] at B3 B31
  rw [← ho3, ← ho4] at B4 B41
  have fin : ∀ (u8 : U) (h8 : H) (w : Value) (x : LitT), (mkLit gs l st).1 = x → Step (fun c => c = b) u2 h2 u8 h8 → Blk u8 h8 b [str (mkLit gs l st).2.1, gv, .int .i64 ((mkLit gs l st).2.2 : Nat)] → Own h2.size u8 h8 w x.2.1.2.1 →
      Blk u8 h8 o4 (litA (0, noAtom, 0, noTerm, noTerm, 0) (.slice none 0 0)) ∧ ∃ h9, h9 = hsets h8 o4 0 (litA x w) ∧ Blk u8 h9 o4 (litA x w) ∧ K (.agg (litA x w).toArray) h9 := by
    intro u8 h8 w x hx s8 Wb O
    have D4 := B4.step s8 (by omega)
    have W9 := D4.sets (l := litA x w) rfl
    have s9 := Step.sets (S := fun c => c = o4) u8 h8 (b := o4) (o := 0) (litA x w) rfl (by rw [D4.2.2.2.1]; exact Nat.zero_le _) (by rw [D4.2.1]; exact Nat.le_refl _)
    have h10 := hK u8 (hsets h8 o4 0 (litA x w)) w (((s2.mono (fun c _ q => q.elim)).trans s8 (fun c _ q => q)).trans s9 (fun c hc q => by omega)) (Wb.step s9 (by omega)) (by rw [hx]; exact (O.step s9 (fun c qc q => by have := O.ge qc; omega)).mono (by omega))
    rw [hx] at h10
    exact ⟨D4, _, rfl, W9, h10⟩
  simp (disch := first | omega | (simp only [e_ssz, e_psz, e_hszs, List.length_cons, List.length_nil]; try omega; done)) only [↓reduceIte, go_sem, plMLit_S, plMLit_E, ← hh2, ← ho3, ← ho4, B3.at, B3.2.1]
  refine effS_call (.inl ⟨rfl, l.1, 3, rfl, by omega, by simp (disch := first | omega | (simp only [e_ssz, e_psz, e_hszs, List.length_cons, List.length_nil]; try omega; done)) only [go_sem], ?_⟩)
  by_cases h0 : l.1 % 3 = 0
  · have e : mkLit gs l st = ((1, (mkAtom gs false l.2.1 st).1, 0, noTerm, noTerm, (mkAtom gs false l.2.1 st).1.2.2), (mkAtom gs false l.2.1 st).2) := by unfold mkLit; rw [if_pos h0]
    simp (disch := first | omega | (simp only [e_ssz, e_psz, e_hszs, List.length_cons, List.length_nil]; try omega; done)) only [↓reduceIte, go_sem, eq_true h0, B3.at, B3.2.1]
    refine effS_call (.inr (.inr (.inr (.inr ⟨rfl, u2, b, gs, gv, false, l.2.1, _, st, rfl, hM2, by omega, ia2, hla, hP2, fun u5 h5 w5 s5 W5 O5 => ⟨by simp (disch := first | omega | (simp only [e_ssz, e_psz, e_hszs, List.length_cons, List.length_nil]; try omega; done)) only [go_sem], ?_⟩⟩))))
    obtain ⟨at', hat⟩ : ∃ x, x = (mkAtom gs false l.2.1 st).1 := ⟨_, rfl⟩
    rw [← hat] at O5 e ⊢
    rw [e] at fin
    obtain ⟨ya, yc, rfl, -, -⟩ := O5.sl
    obtain ⟨h6, h7, u7, hh6, hh7, D6, E6, s7, hz7⟩ := boxed u5 h5 [str [], .slice none 0 0, .int .i64 0] [str at'.1, .slice ya at'.2.1.length yc, .int .i64 at'.2.2] 52 rfl
    have D61 := D6.1
    have E61 := E6.1
    obtain ⟨D4, h9, hh9, W9, hKf⟩ := fin u7 h7 _ _ rfl (s5.trans0 s7) (W5.step0 s7) (O5.step0 s7)
    have D41 := D4.1
    have W91 := W9.1
    simp only [litA, noTerm, noAtom] at hh9 W9 hKf D4
    simp (disch := first | omega | (simp only [e_ssz, e_psz, e_hszs, List.length_cons, List.length_nil]; try omega; done)) only [↓reduceIte, go_sem, ← hh6, ← hh7, D6.2.1, D6.2.2.1, E6.at, E6.2.1, D4.2.1, D4.2.2.1, ← hh9, W9.at, W9.2.1]
    exact hKf
  by_cases h1 : l.1 % 3 = 1
  · obtain ⟨st2, hst2⟩ : ∃ st2 : MS, st2 = ((putS gs st [110, 111, 116]).1 ++ [32], (putS gs st [110, 111, 116]).2) := ⟨_, rfl⟩
    have e : mkLit gs l st = ((2, (mkAtom gs false l.2.1 st2).1, 0, noTerm, noTerm, offS gs st), (mkAtom gs false l.2.1 st2).2) := by unfold mkLit; rw [if_neg h0, if_pos h1, hst2]
    have hn := put_near (gs := gs) st [110, 111, 116]
    have hn1 := hn.1
    have hn2 := hn.2
    simp only [List.length_cons, List.length_nil] at hn1
    simp (disch := first | omega | (simp only [e_ssz, e_psz, e_hszs, List.length_cons, List.length_nil]; try omega; done)) only [↓reduceIte, go_sem, eq_false h0, eq_true h1]
    refine effS_call (.inr (.inr (.inl ⟨rfl, u2, b, gs, gv, st, [110, 111, 116], rfl, hM2, by decide, fun h5 s5 W5 => ⟨by simp (disch := first | omega | (simp only [e_ssz, e_psz, e_hszs, List.length_cons, List.length_nil]; try omega; done)) only [go_sem], ?_⟩⟩)))
    obtain ⟨off, hoff⟩ : ∃ off, off = offS gs st := ⟨_, rfl⟩
    obtain ⟨s1, hs1'⟩ : ∃ s1, s1 = putS gs st [110, 111, 116] := ⟨_, rfl⟩
    rw [← hs1'] at W5 hn1 hn2 hst2
    rw [← hoff] at e ⊢
    have W51 := W5.1
    have W6 := W5.set (i := 0) (v := str (s1.1 ++ [32])) (by simp)
    have s6 := Step.set (S := fun c => c = b) u2 h5 (b := b) (o := 0) (str (s1.1 ++ [32])) rfl (by rw [W5.2.2.2.1]; exact Nat.zero_le _)
    obtain ⟨h6, hh6⟩ : ∃ h6, h6 = hset h5 b 0 (str (s1.1 ++ [32])) := ⟨_, rfl⟩
    rw [← hh6] at W6 s6
    simp only [List.set_cons_zero] at W6
    have hl2 : st2.1.length = s1.1.length + 1 := by rw [hst2]; simp
    have hk2 : st2.2 = s1.2 := by rw [hst2]
    have W6' : Blk u2 h6 b [str st2.1, gv, .int .i64 (st2.2 : Nat)] := by rw [hst2]; exact W6
    have s56 := s5.trans s6 (fun c _ q => q)
    have D3 := B3.step s56 (by omega)
    have D31 := D3.1
    have ig6 := hM2.2.1.mono s56.ge
    simp (disch := first | omega | (simp only [e_ssz, e_psz, e_hszs, List.length_cons, List.length_nil]; try omega; done)) only [↓reduceIte, go_sem, W5.at, W5.2.1, W5.2.2.1, ← hh6, D3.at, D3.2.1]
    refine ⟨by omega, effS_call (.inr (.inr (.inr (.inr ⟨rfl, u2, b, gs, gv, false, l.2.1, _, st2, rfl, ⟨W6', ig6, by omega, by omega⟩, by omega, ia2.mono s56.ge, hla, hP2.mono s56.ge, fun u7 h7 w7 s7 W7 O7 => ⟨by simp (disch := first | omega | (simp only [e_ssz, e_psz, e_hszs, List.length_cons, List.length_nil]; try omega; done)) only [go_sem], ?_⟩⟩))))⟩
    obtain ⟨at', hat⟩ : ∃ x, x = (mkAtom gs false l.2.1 st2).1 := ⟨_, rfl⟩
    rw [← hat] at O7 e ⊢
    rw [e] at fin
    obtain ⟨ya, yc, rfl, -, -⟩ := O7.sl
    obtain ⟨h8, h9, u9, hh8, hh9, D8, E8, s9, hz9⟩ := boxed u7 h7 [str [], .slice none 0 0, .int .i64 0] [str at'.1, .slice ya at'.2.1.length yc, .int .i64 at'.2.2] 52 rfl
    have D81 := D8.1
    have E81 := E8.1
    obtain ⟨D4, h10, hh10, W10, hKf⟩ := fin u9 h9 _ _ rfl ((s56.trans s7 (fun c _ q => q)).trans0 s9) (W7.step0 s9) ((O7.step0 s9).mono s56.ge.sz)
    have D41 := D4.1
    have W101 := W10.1
    simp only [litA, noTerm, noAtom] at hh10 W10 hKf D4
    simp (disch := first | omega | (simp only [e_ssz, e_psz, e_hszs, List.length_cons, List.length_nil]; try omega; done)) only [↓reduceIte, go_sem, ← hh8, ← hh9, D8.2.1, D8.2.2.1, E8.at, E8.2.1, D4.2.1, D4.2.2.1, ← hh10, W10.at, W10.2.1]
    exact hKf
  · obtain ⟨st1, hst1⟩ : ∃ x, x = (mkTerm gs l.2.2.2.1 st).2 := ⟨_, rfl⟩
    obtain ⟨lt, hlt⟩ : ∃ x, x = (mkTerm gs l.2.2.2.1 st).1 := ⟨_, rfl⟩
    obtain ⟨st2, hst2⟩ : ∃ x, x = putS gs st1 (opS l.2.2.1) := ⟨_, rfl⟩
    obtain ⟨rt, hrt⟩ : ∃ x, x = (mkTerm gs l.2.2.2.2 st2).1 := ⟨_, rfl⟩
    have e : mkLit gs l st = ((3, noAtom, 1 + l.2.2.1 % 6, lt, rt, lt.2.2.2), (mkTerm gs l.2.2.2.2 st2).2) := by unfold mkLit; rw [if_neg h0, if_neg h1, hrt, hst2, hlt, hst1]
    rw [e] at fin
    have hn := term_near (gs := gs) hll st
    rw [← hst1] at hn
    have hn1 := hn.1
    have hn2 := hn.2
    have hp := put_near (gs := gs) st1 (opS l.2.2.1)
    have hol := op_len l.2.2.1
    rw [← hst2] at hp
    have hp1 := hp.1
    have hp2 := hp.2
    simp (disch := first | omega | (simp only [e_ssz, e_psz, e_hszs, List.length_cons, List.length_nil]; try omega; done)) only [↓reduceIte, go_sem, eq_false h0, eq_false h1, B3.at, B3.2.1]
    refine effS_call (.inr (.inr (.inr (.inl ⟨rfl, u2, b, gs, gv, st, l.2.2.2.1, rfl, hM2, hll, hP2, fun u5 h5 s5 W5 => ⟨by simp (disch := first | omega | (simp only [e_ssz, e_psz, e_hszs, List.length_cons, List.length_nil]; try omega; done)) only [go_sem], ?_⟩⟩))))
    rw [← hst1] at W5
    rw [← hlt]
    obtain ⟨h6, h7, u7, hh6, hh7, D6, E6, s7, hz7⟩ := boxed u5 h5 [.int .i64 0, .int .i64 0, str [], .int .i64 0] [.int .i64 lt.1, .int .i64 lt.2.1, str lt.2.2.1, .int .i64 lt.2.2.2] 87 rfl
    have D61 := D6.1
    have E61 := E6.1
    have D3 := (B3.step s5 (by omega)).step0 s7
    have D31 := D3.1
    have s57 := s5.trans0 s7
    obtain ⟨o8, ho8⟩ : ∃ o, o = h5.size := ⟨_, rfl⟩
    rw [← ho8] at D6 D61 E6 E61 hh7
    simp (disch := first | omega | (simp only [e_ssz, e_psz, e_hszs, List.length_cons, List.length_nil]; try omega; done)) only [↓reduceIte, go_sem, ← hh6, ← ho8, ← hh7, D6.2.1, D6.2.2.1, D3.at, D3.2.1]
    refine effS_call (.inr (.inl ⟨rfl, l.2.2.1, rfl, by simp (disch := first | omega | (simp only [e_ssz, e_psz, e_hszs, List.length_cons, List.length_nil]; try omega; done)) only [go_sem], ?_⟩))
    simp (disch := first | omega | (simp only [e_ssz, e_psz, e_hszs, List.length_cons, List.length_nil]; try omega; done)) only [↓reduceIte, go_sem]
    refine effS_call (.inr (.inr (.inl ⟨rfl, u7, b, gs, gv, st1, opS l.2.2.1, rfl, ⟨W5.step0 s7, hM2.2.1.mono s57.ge, by omega, by omega⟩, by omega, fun h8 s8 W8 => ⟨by simp (disch := first | omega | (simp only [e_ssz, e_psz, e_hszs, List.length_cons, List.length_nil]; try omega; done)) only [go_sem], ?_⟩⟩)))
    rw [← hst2] at W8
    have s58 := s57.trans s8 (fun c _ q => q)
    have z5 := s5.ge.sz
    have E68 := E6.step s8 (by omega)
    have D38 := D3.step s8 (by omega)
    have D381 := D38.1
    have E681 := E68.1
    simp (disch := first | omega | (simp only [e_ssz, e_psz, e_hszs, List.length_cons, List.length_nil]; try omega; done)) only [↓reduceIte, go_sem, D38.at, D38.2.1]
    refine effS_call (.inr (.inr (.inr (.inl ⟨rfl, u7, b, gs, gv, st2, l.2.2.2.2, rfl, ⟨W8, hM2.2.1.mono s58.ge, by omega, by omega⟩, hlr, hP2.mono s58.ge, fun u9 h9 s9 W9 => ⟨by simp (disch := first | omega | (simp only [e_ssz, e_psz, e_hszs, List.length_cons, List.length_nil]; try omega; done)) only [go_sem], ?_⟩⟩))))
    rw [← hrt]
    obtain ⟨h10, h11, u11, hh10, hh11, D10, E10, s11, hz11⟩ := boxed u9 h9 [.int .i64 0, .int .i64 0, str [], .int .i64 0] [.int .i64 rt.1, .int .i64 rt.2.1, str rt.2.2.1, .int .i64 rt.2.2.2] 87 rfl
    have D101 := D10.1
    have E101 := E10.1
    have s511 := (s58.trans s9 (fun c _ q => q)).trans0 s11
    have F8 := (E68.step s9 (by omega)).step0 s11
    have F3 := (D38.step s9 (by omega)).step0 s11
    have F81 := F8.1
    have F31 := F3.1
    obtain ⟨o9, ho9⟩ : ∃ o, o = h9.size := ⟨_, rfl⟩
    rw [← ho9] at D10 D101 E10 E101 hh11
    simp (disch := first | omega | (simp only [e_ssz, e_psz, e_hszs, List.length_cons, List.length_nil]; try omega; done)) only [↓reduceIte, go_sem, ← hh10, ← ho9, ← hh11, D10.2.1, D10.2.2.1, F3.at, F3.2.1, F8.at, F8.2.1, E10.at, E10.2.1]
    refine effS_call (.inl ⟨rfl, l.2.2.1, 6, rfl, by omega, by simp (disch := first | omega | (simp only [e_ssz, e_psz, e_hszs, List.length_cons, List.length_nil]; try omega; done)) only [↓reduceIte, go_sem, F8.2.1, E10.2.1], ?_⟩)
    obtain ⟨D4, h12, hh12, W12, hKf⟩ := fin u11 h11 (.slice none 0 0) _ rfl s511 (W9.step0 s11) (.nil _ _ _)
    have D41 := D4.1
    have W121 := W12.1
    have w1 : IntKind.i64.wrap (1 + l.2.2.1 % 6) = 1 + l.2.2.1 % 6 := wr64 (by omega) (by omega)
    simp only [litA, noTerm, noAtom] at hh12 W12 hKf D4
    simp (disch := first | omega | (simp only [e_ssz, e_psz, e_hszs, List.length_cons, List.length_nil]; try omega; done)) only [↓reduceIte, go_sem, w1, D4.2.1, D4.2.2.1, ← hh12, W12.at, W12.2.1]
    exact hKf
theorem sz_LL : Rep.sz LL = 8 := rfl
theorem rep_LL {u : U} {h : H} {x : LL} {cs : List Value} (hr : Rep.rep u h x cs) : ∃ v, cs = [.int .i64 x.1, .int .i64 x.2.1.1, v, .int .i64 x.2.2.1, .int .i64 x.2.2.2.1.1, .int .i64 x.2.2.2.1.2, .int .i64 x.2.2.2.2.1, .int .i64 x.2.2.2.2.2] ∧ IsSl u h v x.2.1.2 := by
  simp only [rep_prod, rep_int, rep_list] at hr
  obtain ⟨_, _, rfl, rfl, _, _, rfl, ⟨_, _, rfl, rfl, v, rfl, hv⟩, _, _, rfl, rfl, _, _, rfl, ⟨_, _, rfl, rfl, rfl⟩, _, _, rfl, rfl, rfl⟩ := hr
  exact ⟨v, rfl, hv⟩
theorem rep_litA {u : U} {h : H} {x : LitT} {w : Value} (hw : IsSl u h w x.2.1.2.1) : Rep.rep u h x (litA x w) := by rw [rep_lit]; exact ⟨w, rfl, hw⟩
def C_mbody (vs : List Value) (h : H) (K : Value → H → Prop) : Prop := ∃ (u : U) (b : Nat) (gs : List Int) (gv : Value) (l : List LL) (lv : Value) (st : MS), vs = [.pointer (some ⟨b, 0, none⟩), lv] ∧ MkB u h b gs gv st ∧ (st.1.length ≤ 7000000 ∧ st.2 ≤ 700000) ∧ IsSl u h lv l ∧ (∀ x ∈ l, OkLL x) ∧ PowG u h ∧
  ∀ u' h' w, Step (fun c => c = b) u h u' h' → Blk u' h' b [str (mkBody gs l st).2.1, gv, .int .i64 ((mkBody gs l st).2.2 : Nat)] → Own h.size u' h' w (mkBody gs l st).1 → (∀ c, OwnB w c → c ≠ b) → K w h'
def G_mbody : Ctr := fun f vs h K _ => (f = 26 ∧ C_put vs h K) ∨ (f = 67 ∧ C_mlit vs h K)
theorem G_mbody_ok : GOk Tryd.prog G_mbody := by
  rintro f vs h K KP (⟨rfl, hC⟩ | ⟨rfl, hC⟩)
  · exact plPut_ok hC
  · exact plMLit_ok hC
theorem bodyS_len (gs : List Int) (l : List LL) (st : MS) : ∀ i, (bodyS gs l st i).1.length = i
  | 0 => rfl
  | i + 1 => by show ((bodyS gs l st i).1 ++ [_]).length = i + 1; rw [List.length_append, bodyS_len gs l st i]; rfl
def mbR : S := sS (sBk (sF (sS plMBody_L1)))
theorem mbL_cut : plMBody_L1 = .seq (sF plMBody_L1) (.seq (.block 1 (.seq (sF (sBk (sF (sS plMBody_L1)))) mbR)) (sS (sS plMBody_L1))) := rfl
theorem plMBody_ok {vs : List Value} {h : H} {K : Value → H → Prop} {KP : List PanicEntry → H → Prop} (hC : C_mbody vs h K) : HCX Tryd.prog 27 vs h K KP := by
  obtain ⟨u, b, gs, gv, l, lv, st, rfl, hM, ⟨hs1, hs2⟩, il, hl, hP, hK⟩ := hC
  have hm := mlen'
  have hM1 := hM.1.1
  refine plMBody_H G_mbody G_mbody_ok _ _ ?_
  obtain ⟨la, lc, rfl, n1, n2⟩ := il.sl
  simp (disch := first | omega | (simp only [e_ssz, e_psz, e_hszs, List.length_cons, List.length_nil]; try omega; done)) only [go_sem, plMBody_S, plMBody_E]
  obtain ⟨n, hn⟩ : ∃ n, n = min l.length 16 := ⟨_, rfl⟩
  unfold mkBody at hK
  rw [← hn] at hK
  obtain ⟨I, hI⟩ : ∃ I : Nat → Env → H → Prop, I = fun k σ h' => ∃ (u' : U) (w : Value), σ 0 = .pointer (some ⟨b, 0, none⟩) ∧ σ 1 = .slice la l.length lc ∧ σ 5 = w ∧ σ 6 = .int .i64 (k : Nat) ∧ k ≤ n ∧ Step (fun c => c = b) u h u' h' ∧ Blk u' h' b [str (bodyS gs l st k).2.1, gv, .int .i64 ((bodyS gs l st k).2.2 : Nat)] ∧ Own h.size u' h' w (bodyS gs l st k).1 ∧ (∀ c, OwnB w c → c ≠ b) := ⟨_, rfl⟩
  refine wpS_loop I (fun j => n - j) 0 (by rw [hI]; exact ⟨u, _, by simp [upd], by simp [upd], by simp [upd], by simp [upd], by omega, Step.refl _ _ _, hM.1, .nil _ _ _, fun c ⟨_, _, _, q⟩ => (by cases q)⟩) ?_
  intro k σ h' hy
  rw [hI] at hy
  obtain ⟨u', w, e0, e1, e5, e6, hk, st', Bb, ow, hwb⟩ := hy
  have hnear := bodyS_near (gs := gs) (st := st) hl k
  have hal := bodyS_len gs l st k
  obtain ⟨A, hA⟩ : ∃ A, A = bodyS gs l st k := ⟨_, rfl⟩
  rw [← hA] at Bb ow hnear hal
  have hn1 := hnear.1
  have hn2 := hnear.2
  obtain ⟨wa, wc, rfl, q1, q2⟩ := ow.sl
  have Bb1 := Bb.1
  have zz := st'.ge.sz
  have hMk : MkB u' h' b gs gv A.2 := ⟨Bb, hM.2.1.mono st'.ge, by omega, by omega⟩
  rw [mbL_cut]
  by_cases hlt : k < n
  case neg =>
    obtain rfl : k = n := by omega
    rw [← hA] at hK
    have hKf := hK u' h' _ st' Bb ow hwb
    by_cases hkt : k < l.length
    · simp (disch := first | omega | (simp only [e_ssz, e_psz, e_hszs, List.length_cons, List.length_nil]; try omega; done)) only [↓reduceIte, go_sem, sF, sS, sBk, plMBody_L1, e1, e5, e6, hkt, eq_false (show ¬ (k : Int) < 16 by omega)]
      exact hKf
    · simp (disch := first | omega | (simp only [e_ssz, e_psz, e_hszs, List.length_cons, List.length_nil]; try omega; done)) only [↓reduceIte, go_sem, sF, sS, sBk, plMBody_L1, e1, e5, e6, eq_false (show ¬ (k : Int) < (l.length : Nat) by omega)]
      exact hKf
  have hkt : k < l.length := by omega
  obtain ⟨st2, hst2⟩ : ∃ x : MS, x = if k = 0 then A.2 else putS gs A.2 [44] := ⟨_, rfl⟩
  have hnext : bodyS gs l st (k + 1) = (A.1 ++ [(mkLit gs (l.getD k noLL) st2).1], (mkLit gs (l.getD k noLL) st2).2) := by rw [hst2, hA]; rfl
  have hp : st2.1.length ≤ A.2.1.length + 19 ∧ st2.2 ≤ A.2.2 + 1 := by
    rw [hst2]
    split
    · exact ⟨by omega, by omega⟩
    · exact put_near (gs := gs) A.2 [44]
  obtain ⟨x, hx⟩ : ∃ x, l[k]? = some x := ⟨l[k], by simp [hkt]⟩
  have hxo := hl x (List.mem_of_getElem? hx)
  have hgd : l.getD k noLL = x := by rw [List.getD_eq_getElem?_getD, hx]; rfl
  rw [hgd] at hnext
  have rest : ∀ (Q : Post) (σ2 : Env) (h2 : H), (∀ i, i < 9 → σ2 i = σ i) → Step (fun c => c = b) u' h' u' h2 → Blk u' h2 b [str st2.1, gv, .int .i64 (st2.2 : Nat)] →
      (∀ σ3 h3, σ3 6 = .int .i64 (k : Nat) → (∀ j : Int, I (k + 1) (upd (upd σ3 16 (.int .i64 j)) 6 (.int .i64 ((k + 1 : Nat) : Int))) h3) → Q .normal σ3 h3) → wpS G_mbody mbR Q σ2 h2 := by
    intro Q σ2 h2 hσ2 s2 Wb2 hQ
    have f0 := (hσ2 0 (by omega)).trans e0
    have f1 := (hσ2 1 (by omega)).trans e1
    have f5 := (hσ2 5 (by omega)).trans e5
    have f6 := (hσ2 6 (by omega)).trans e6
    have il2 := (il.mono st'.ge).mono s2.ge
    have ow2 := ow.step s2 (fun c qc q => hwb c qc q)
    obtain ⟨pb, po, rfl, hpb, hpu, hpz, hpr⟩ := il2.row k x hx
    obtain ⟨xv, hpr, ixv⟩ := rep_LL hpr
    simp only [sz_LL, hvs_8, List.cons.injEq, and_true] at hpr hpu hpz
    obtain ⟨p0, p1, p2, p3, p4, p5, p6, p7⟩ := hpr
    simp (disch := first | omega | (simp only [e_ssz, e_psz, e_hszs, List.length_cons, List.length_nil]; try omega; done)) only [↓reduceIte, go_sem, mbR, sF, sS, sBk, plMBody_L1, f0, f1, f6, hkt, p0, p1, p2, p3, p4, p5, p6, p7]
    refine effS_call (.inr ⟨rfl, u', b, gs, gv, x, xv, st2, rfl, ⟨Wb2, (hM.2.1.mono st'.ge).mono s2.ge, by omega, by omega⟩, by omega, ixv, hxo, (hP.mono st'.ge).mono s2.ge, fun u4 h4 w4 s4 W4 O4 => ⟨by simp (disch := first | omega | (simp only [e_ssz, e_psz, e_hszs, List.length_cons, List.length_nil]; try omega; done)) only [go_sem], ?_⟩⟩)
    obtain ⟨y, hy⟩ : ∃ y, y = (mkLit gs x st2).1 := ⟨_, rfl⟩
    obtain ⟨st3, hst3⟩ : ∃ y, y = (mkLit gs x st2).2 := ⟨_, rfl⟩
    rw [← hy, ← hst3] at hnext
    rw [← hst3] at W4
    rw [← hy] at O4 ⊢
    have hxr := rep_litA O4.isSl
    have ow4 := ow2.step s4 (fun c qc q => hwb c qc q)
    obtain ⟨ya, yc, rfl, -, -⟩ := O4.sl
    have z2 := s2.ge.sz
    have z4 := s4.ge.sz
    simp only [litA] at hxr ⊢
    simp (disch := first | omega | (simp only [e_ssz, e_psz, e_hszs, List.length_cons, List.length_nil]; try omega; done)) only [↓reduceIte, go_sem, f5]
    refine effS_app1q rfl ow4 (x := y) hxr rfl rfl (by omega) (by omega) fun a5 n5 c5 u5 h5 o5 s5 hO5 => ⟨by simp (disch := first | omega | (simp only [e_ssz, e_psz, e_hszs, List.length_cons, List.length_nil]; try omega; done)) only [go_sem], ?_⟩
    obtain ⟨_, _, hme, m31, m32⟩ := o5.sl
    simp only [Value.slice.injEq] at hme
    obtain ⟨rfl, rfl, rfl⟩ := hme
    obtain ⟨l2, hl2⟩ : ∃ l2, l2 = A.1 ++ [y] := ⟨_, rfl⟩
    rw [← hl2] at o5 hO5 m31 hnext ⊢
    have hO5' : ∀ c, OwnB (.slice a5 l2.length c5) c → c ≠ b := fun c q => (hO5 c q).elim (hwb c) (fun q => by omega)
    simp (disch := first | omega | (simp only [e_ssz, e_psz, e_hszs, List.length_cons, List.length_nil]; try omega; done)) only [↓reduceIte, go_sem]
    refine hQ _ _ (by simp [upd, f6]) (fun j => ?_)
    rw [hI]
    refine ⟨u5, _, by simp [upd, f0], by simp [upd, f1], by simp [upd], by simp [upd], hlt, ((st'.trans s2 (fun c _ q => q)).trans s4 (fun c _ q => q)).trans s5 (fun c hc q => by have := ow.ge q; omega), by rw [hnext]; exact W4.step s5 (fun q => hwb _ q rfl), by rw [hnext]; exact o5, hO5'⟩
  by_cases hk0 : k = 0
  · have hs : st2 = A.2 := by rw [hst2, if_pos hk0]
    rw [hs] at rest
    simp (disch := first | omega | (simp only [e_ssz, e_psz, e_hszs, List.length_cons, List.length_nil]; try omega; done)) only [↓reduceIte, go_sem, sF, sS, sBk, plMBody_L1, e1, e6, hkt, eq_true (show (k : Int) < 16 by omega), eq_false (show ¬ (0 : Int) < k by omega)]
    refine rest _ _ h' (fun i hi => by simp [upd, show ¬ i = 14 by omega, show ¬ i = 18 by omega]) (Step.refl _ _ _) Bb ?_
    intro σ3 h3 e63 hI3
    simp (disch := first | omega | (simp only [e_ssz, e_psz, e_hszs, List.length_cons, List.length_nil]; try omega; done)) only [↓reduceIte, go_sem, e63]
    exact ⟨k + 1, hI3 _, by omega⟩
  · have hs : st2 = putS gs A.2 [44] := by rw [hst2, if_neg hk0]
    rw [hs] at rest
    simp (disch := first | omega | (simp only [e_ssz, e_psz, e_hszs, List.length_cons, List.length_nil]; try omega; done)) only [↓reduceIte, go_sem, sF, sS, sBk, plMBody_L1, e0, e1, e6, hkt, eq_true (show (k : Int) < 16 by omega), eq_true (show (0 : Int) < k by omega)]
    refine effS_call (.inl ⟨rfl, u', b, gs, gv, A.2, [44], rfl, hMk, by decide, fun h8 s8 W8 => ⟨by simp (disch := first | omega | (simp only [e_ssz, e_psz, e_hszs, List.length_cons, List.length_nil]; try omega; done)) only [go_sem], ?_⟩⟩)
    simp (disch := first | omega | (simp only [e_ssz, e_psz, e_hszs, List.length_cons, List.length_nil]; try omega; done)) only [go_sem]
    refine rest _ _ h8 (fun i hi => by simp [upd, show ¬ i = 14 by omega, show ¬ i = 18 by omega, show ¬ i = 20 by omega]) s8 W8 ?_
    intro σ3 h3 e63 hI3
    simp (disch := first | omega | (simp only [e_ssz, e_psz, e_hszs, List.length_cons, List.length_nil]; try omega; done)) only [↓reduceIte, go_sem, e63]
    exact ⟨k + 1, hI3 _, by omega⟩
theorem sz_CC : Rep.sz CC = 3 := rfl
theorem rep_CC {u : U} {h : H} {x : CC} {cs : List Value} (hr : Rep.rep u h x cs) : ∃ v w, cs = [.int .i64 x.1.1, v, w] ∧ IsSl u h v x.1.2 ∧ IsSl u h w x.2 := by
  simp only [rep_prod, rep_int, rep_list] at hr
  obtain ⟨_, _, rfl, ⟨_, _, rfl, rfl, v, rfl, hv⟩, w, rfl, hw⟩ := hr
  exact ⟨v, w, rfl, hv, hw⟩
def C_make (vs : List Value) (h : H) (K : Value → H → Prop) : Prop := ∃ (u : U) (cv gv : Value) (l : List CC) (gs : List Int), vs = [.agg #[cv, gv]] ∧ IsSl u h cv l ∧ IsSl u h gv gs ∧ (∀ c ∈ l, OkCC c) ∧ LxG u h ∧ PowG u h ∧ ∀ u' h', Step S0 u h u' h' → K (.bool true) h'
end Go.Proofs.YtmnfhmbmifompaaDoor
