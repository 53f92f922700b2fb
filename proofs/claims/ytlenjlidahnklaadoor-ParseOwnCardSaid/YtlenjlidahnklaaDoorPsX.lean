/- The reader of clauses, walked: atom. -/
import Derived.Test.YtlenjlidahnklaaDoorPsW
namespace Go.Ev
open Go Rep Edict
theorem rep_term {u : U} {h : H} {x : TermT} {cs : List Value} : rep u h x cs = (cs = termE x) := by simp [rep_prod, rep_int, rep_str, termE]
theorem sz_term : sz TermT = 4 := rfl
end Go.Ev
namespace Go.Proofs.YtlenjlidahnklaaDoor
open Go Go.Ev Edict
def C_pAtom (vs : List Value) (h : H) (K : Value → H → Prop) (KP : List PanicEntry → H → Prop) : Prop := ∃ (u : U) (rb : Nat) (sl : Value) (L : List Tok) (bad : Flt) (i : Nat) (v : Bool), vs = [.pointer (some ⟨rb, 0, none⟩), .bool v] ∧ RdB u h rb sl L bad i ∧
  (∀ e, atomD bad v (L.drop i) = .error e → ∀ u' h', Step (fun b => b = rb) u h u' h' → KP (gu e) h') ∧
  (∀ a q, atomD bad v (L.drop i) = .ok (a, q) → ∀ u' h' w i', Step (fun b => b = rb) u h u' h' → RdB u' h' rb sl L bad i' → L.drop i' = q → Own h.size u' h' w a.2.1 → K (.agg #[str a.1, w, .int .i64 a.2.2]) h')
def G_pAt : Ctr := fun f vs h K KP => (f = 27 ∧ C_pPeek vs h K KP) ∨ (f = 39 ∧ C_pRefuse vs h KP) ∨ (f = 42 ∧ C_pIsTerm vs h K) ∨ (f = 32 ∧ C_pTake vs h K KP) ∨ (f = 28 ∧ C_pStop vs h KP) ∨ (f = 43 ∧ C_pTerm vs h K KP)
theorem G_pAt_ok : GOk Tryd.prog G_pAt := by
  rintro f vs h K KP (⟨rfl, hC⟩ | ⟨rfl, hC⟩ | ⟨rfl, hC⟩ | ⟨rfl, hC⟩ | ⟨rfl, hC⟩ | ⟨rfl, hC⟩)
  · exact psPeek_ok hC
  · exact psRefuse_ok hC
  · exact psIsTerm_ok hC
  · exact psTake_ok hC
  · exact psStop_ok hC
  · exact psTerm_ok hC
theorem psAtom_ok {vs : List Value} {h : H} {K : Value → H → Prop} {KP : List PanicEntry → H → Prop} (hC : C_pAtom vs h K KP) : HCX Tryd.prog 34 vs h K KP := by
  obtain ⟨u, rb, sl, L, bad, i, v, rfl, hR, hKE, hKO⟩ := hC
  refine psAtom_H G_pAt G_pAt_ok _ _ ?_
  have s1 := Step.push0 S0 u h #[str [], .slice none 0 0, .int .i64 0] 60
  have B1 := Blk.new (u := u) (h := h) [str [], .slice none 0 0, .int .i64 0] 60
  obtain ⟨h1, hh1⟩ : ∃ h1, h1 = h.push (.cells #[str [], .slice none 0 0, .int .i64 0] 60) := ⟨_, rfl⟩
  obtain ⟨u1, hu1⟩ : ∃ u1, u1 = ub u h.size 0 := ⟨_, rfl⟩
  have B1' : Blk u1 h1 h.size [str [], .slice none 0 0, .int .i64 0] := by rw [hu1, hh1]; exact B1
  rw [← hh1, ← hu1] at s1
  clear B1
  have hR1 := hR.step0 s1
  have hrb : rb < h.size := hR.1.1
  have hLl := hR.2.2.2
  have hne1 : h.size ≠ rb := by omega
  have s1' : Step (fun b => b = rb) u h u1 h1 := s1.mono (fun _ _ q => q.elim)
  simp (disch := first | omega | (simp only [e_ssz, e_psz, e_hszs, List.length_cons, List.length_nil]; try omega; done)) only [↓reduceIte, go_sem, psAtom_S, psAtom_E, ← hh1]
  refine effS_call (.inr (.inr (.inr (.inl ⟨rfl, u1, rb, sl, L, bad, i, 1, rfl, hR1, fun u2 h2 s2 hd => ?_, fun u2 h2 t r s2 hd hk => ?_, fun u2 h2 t r s2 hd hk h0 => absurd h0 (by decide), fun u2 h2 t r s2 hd hk _ hR2 => ⟨by simp (disch := first | omega | (simp only [e_ssz, e_psz, e_hszs, List.length_cons, List.length_nil]; try omega; done)) only [go_sem], ?_⟩⟩))))
  · exact hKE bad (by rw [hd, atomD]) _ _ (s1'.trans0 s2)
  · exact hKE (refuseD t) (by rw [hd, atomD_no hk]) _ _ (s1'.trans0 s2)
  have st2 : Step (fun b => b = rb) u h u2 h2 := s1'.trans s2 (fun _ _ q => q)
  have B12 := B1'.step s2 hne1
  rw [hd] at hKE hKO
  obtain ⟨hlt, hget, hd2⟩ := drop_cons hd
  have hb1 : h.size < h2.size := Nat.lt_of_lt_of_le B1'.1 s2.ge.sz
  obtain ⟨h3, h4, u4, hh3, hh4, B3, B4, s4, hz4⟩ := boxed u2 h2 [.int .i64 0, str [], .int .i64 0, .int .i64 0, .int .i64 0, .int .i64 0] (tokE t) 80 rfl
  have B14 := B12.step0 s4
  have hR4 := hR2.step0 s4
  have st4 := st2.trans0 s4
  obtain ⟨h5, h6, u6, hh5, hh6, B5, B6, s6, hz6⟩ := boxed u4 h4 [str [], .slice none 0 0, .int .i64 0] [str t.2.1, .slice none 0 0, .int .i64 t.2.2.2.2.1] 60 rfl
  have B16 := B14.step0 s6
  have hR6 := hR4.step0 s6
  have st6 := st4.trans0 s6
  simp only [tokE] at hh4 B4 ⊢
  have B31 := B3.1
  have B41 := B4.1
  have B51 := B5.1
  have B61 := B6.1
  have hRb := hR6.1.1
  simp (disch := first | omega | (simp only [e_ssz, e_psz, e_hszs, List.length_cons, List.length_nil]; try omega; done)) only [↓reduceIte, go_sem, ← hh3, ← hh4, B3.2.1, B3.2.2.1, B4.at, B4.2.1, ← hh5, ← hh6, B5.2.1, B5.2.2.1]
  refine effS_call (.inl ⟨rfl, u6, rb, sl, L, bad, i + 1, rfl, hR6, fun u7 h7 s7 => ⟨fun hd' => ?_, fun p q hd' => ⟨by simp (disch := first | omega | (simp only [e_ssz, e_psz, e_hszs, List.length_cons, List.length_nil]; try omega; done)) only [go_sem], ?_⟩⟩⟩)
  · rw [hd2] at hd'
    exact hKE bad (by rw [hd', atomD_nil hk]) _ _ (st6.trans0 s7)
  rw [hd2] at hd'
  subst hd'
  rw [atomD_on hk] at hKE hKO
  have B17 := B16.step0 s7
  have B67 := B6.step0 s7
  have hR7 := hR6.step0 s7
  have st7 := st6.trans0 s7
  have B671 := B67.1
  have B171 := B17.1
  have hRB7 := hR7.1
  have hRb7 := hRB7.1
  obtain ⟨b6, hb6⟩ : ∃ b6, b6 = h4.size := ⟨_, rfl⟩
  have hbb6 : h.size < b6 := by have := B14.1; omega
  rw [← hb6] at B67 B671 ⊢
  clear hh3 hh4 hh5 hh6 B3 B4 B31 B41 B51 B61 B5 B6 hh1
  simp only [tokE]
  by_cases h5 : tK p = 5
  case neg =>
    rw [if_pos h5] at hKE hKO
    have w := B17.sets (l := [str t.2.1, .slice none 0 0, .int .i64 t.2.2.2.2.1]) rfl
    have s8 := st7.setsR (b := h.size) (o := 0) (l := [str t.2.1, .slice none 0 0, .int .i64 t.2.2.2.2.1]) (.inl (Nat.le_refl _)) (by rw [B17.2.2.2.1]; exact Nat.zero_le _) (by rw [B17.2.1]; exact Nat.le_refl _)
    have s78 := Step.sets (S := fun b => b = h.size) u7 h7 (b := h.size) (o := 0) [str t.2.1, .slice none 0 0, .int .i64 t.2.2.2.2.1] rfl (by rw [B17.2.2.2.1]; exact Nat.zero_le _) (by rw [B17.2.1]; exact Nat.le_refl _)
    have hK' := hKO _ _ rfl _ _ _ _ s8 (hR7.step s78 (fun q => hne1 q.symm)) hd2 (.nil _ _ _)
    have h5' : ¬ p.1 = 5 := h5
    simp (disch := first | omega | (simp only [e_ssz, e_psz, e_hszs, List.length_cons, List.length_nil]; try omega; done)) only [↓reduceIte, go_sem, eq_false h5', B67.at, B67.2.1, B17.2.1, B17.2.2.1, w.at, w.2.1]
    exact hK'
  rw [if_neg (by simp [h5])] at hKE hKO
  have h5' : p.1 = 5 := h5
  obtain ⟨hlt2, -, hd3⟩ := drop_cons hd2
  obtain ⟨h8, hh8, s8, hR8⟩ := hR7.adv hlt2
  have B18 := B17.step s8 hne1
  have B68 := B67.step s8 (by omega)
  have st8 : Step (fun b => b = rb) u h u7 h8 := st7.trans s8 (fun b _ q => q)
  obtain ⟨R, hRR⟩ : ∃ R, argsD bad v [] q = R := ⟨_, rfl⟩
  rw [hRR] at hKE hKO
  have hKE' : ∀ e, R = .error e → ∀ u' h', Step (fun b => b = rb) u h u' h' → KP (gu e) h' := fun e he => hKE e (by rw [he])
  have hKO' : ∀ a q, R = .ok (a, q) → ∀ u' h' w i', Step (fun b => b = rb) u h u' h' → RdB u' h' rb sl L bad i' → L.drop i' = q → Own h.size u' h' w a → K (.agg #[str t.2.1, w, .int .i64 t.2.2.2.2.1]) h' := fun a q he => hKO (tX t, a, tO t) q (by rw [he])
  clear hKE hKO
  simp (disch := first | omega | (simp only [e_ssz, e_psz, e_hszs, List.length_cons, List.length_nil]; try omega; done)) only [↓reduceIte, go_sem, eq_true h5', hRB7.at, hRB7.2.1, hRB7.2.2.1, ← hh8]
  obtain ⟨I, hI⟩ : ∃ I : Nat → Env → H → Prop, I = fun j σ h' => ∃ (u' : U) (w : Value) (acc : List TermT), σ 0 = .pointer (some ⟨rb, 0, none⟩) ∧ σ 1 = .bool v ∧ σ 4 = .pointer (some ⟨h.size, 0, none⟩) ∧ σ 6 = .pointer (some ⟨b6, 0, none⟩) ∧ Step (fun b => b = rb) u h u' h' ∧ RdB u' h' rb sl L bad j ∧ Blk u' h' h.size [str [], .slice none 0 0, .int .i64 0] ∧ Blk u' h' b6 [str t.2.1, w, .int .i64 t.2.2.2.2.1] ∧ Own h.size u' h' w acc ∧ (∀ b, OwnB w b → b ≠ h.size ∧ b ≠ b6) ∧ acc.length ≤ 8 ∧ argsD bad v acc (L.drop j) = R := ⟨_, rfl⟩
  refine wpS_loop I (fun j => L.length - j) (i + 1 + 1) (by rw [hI]; exact ⟨u7, _, [], by simp [upd], by simp [upd], by simp [upd], by simp [upd], st8, hR8, B18, B68, .nil _ _ _, fun b ⟨_, _, _, q⟩ => (by cases q), by simp, by rw [hd3]; exact hRR⟩) ?_
  clear hb6 hd2 hd3 hd hRR st7 B17 hR7 st6 st4 st2 s1 s2 s4 s6 s7 s8 hR6 hR4 hR2 hR1 B12 B14 B16 B18 B68 hR8 st8 B1' hRB7 hRb7 hRb B67 B671 B171 hh8 hz4 hz6 hb1
  intro j σ h' hy
  rw [hI] at hy
  obtain ⟨u', w, acc, e0, e1, e4, e6, st, hRj, B4j, B6j, ow, hwb, hacc, hA⟩ := hy
  obtain ⟨wa, wc, rfl, m1, m2⟩ := ow.sl
  have hB4 := B4j.1
  have hB6 := B6j.1
  have hz := st.ge.sz
  by_cases h8 : 8 ≤ acc.length
  · simp (disch := first | omega | (simp only [e_ssz, e_psz, e_hszs, List.length_cons, List.length_nil]; try omega; done)) only [↓reduceIte, go_sem, psAtom_L1, e0, e6, B6j.at, B6j.2.1, eq_true (show (8 : Int) ≤ (acc.length : Nat) by omega)]
    refine effS_call (.inl ⟨rfl, u', rb, sl, L, bad, j, rfl, hRj, fun u2 h2 s2 => ⟨fun hd => ?_, fun t2 r2 hd => ⟨by simp (disch := first | omega | (simp only [e_ssz, e_psz, e_hszs, List.length_cons, List.length_nil]; try omega; done)) only [go_sem], ?_⟩⟩⟩)
    · rw [hd, argsD] at hA
      exact hKE' _ hA.symm _ _ (st.trans0 s2)
    rw [hd, argsD_cons] at hA
    have hR2 := hRj.step0 s2
    have st2 := st.trans0 s2
    simp only [tokE]
    simp (disch := first | omega | (simp only [e_ssz, e_psz, e_hszs, List.length_cons, List.length_nil]; try omega; done)) only [↓reduceIte, go_sem, e1]
    refine effS_call (.inr (.inr (.inl ⟨rfl, t2.1, v, rfl, ⟨by simp (disch := first | omega | (simp only [e_ssz, e_psz, e_hszs, List.length_cons, List.length_nil]; try omega; done)) only [go_sem], ?_⟩⟩)))
    have B62 := B6j.step0 s2
    have hB62 := B62.1
    cases hT : isT t2.1 v with
    | true =>
      rw [if_pos ⟨h8, hT⟩] at hA
      simp (disch := first | omega | (simp only [e_ssz, e_psz, e_hszs, List.length_cons, List.length_nil]; try omega; done)) only [↓reduceIte, go_sem, e0]
      exact effS_call (.inr (.inr (.inr (.inr (.inl ⟨rfl, u2, rb, sl, L, bad, j, 22, rfl, hR2, fun u5 h5 s5 => ⟨fun q => (hd_no hd q).elim, fun t' r' hd' => (by obtain ⟨rfl, rfl⟩ := hd_eq hd hd'; exact hKE' _ hA.symm _ _ (st2.trans0 s5))⟩⟩)))))
    | false =>
      rw [if_neg (fun q => by have := q.2; rw [show tK t2 = t2.1 from rfl, hT] at this; cases this), if_pos (show isT (tK t2) v = false from hT)] at hA
      simp (disch := first | omega | (simp only [e_ssz, e_psz, e_hszs, List.length_cons, List.length_nil]; try omega; done)) only [↓reduceIte, go_sem, e0, e1, e6, B62.at, B62.2.1]
      exact effS_call (.inr (.inr (.inr (.inr (.inr ⟨rfl, u2, rb, sl, L, bad, j, v, rfl, hR2, fun u5 h5 s5 q => (hd_no hd q).elim, fun u5 h5 t' r' s5 hd' hT' => (by obtain ⟨rfl, rfl⟩ := hd_eq hd hd'; exact hKE' _ hA.symm _ _ (st2.trans0 s5)), fun u5 h5 t' r' s5 hd' hT' => (by obtain ⟨rfl, rfl⟩ := hd_eq hd hd'; rw [show tK t2 = t2.1 from rfl, hT] at hT'; cases hT')⟩)))))
  · simp (disch := first | omega | (simp only [e_ssz, e_psz, e_hszs, List.length_cons, List.length_nil]; try omega; done)) only [↓reduceIte, go_sem, psAtom_L1, e0, e1, e6, B6j.at, B6j.2.1, eq_false (show ¬ (8 : Int) ≤ (acc.length : Nat) by omega)]
    refine effS_call (.inr (.inr (.inr (.inr (.inr ⟨rfl, u', rb, sl, L, bad, j, v, rfl, hRj, fun u2 h2 s2 hd => ?_, fun u2 h2 t2 r2 s2 hd hT => ?_, fun u2 h2 t2 r2 s2 hd hT hR2 => ?_⟩)))))
    · rw [hd, argsD] at hA
      exact hKE' _ hA.symm _ _ (st.trans0 s2)
    · rw [hd, argsD_cons, if_neg (fun q => h8 q.1), if_pos hT] at hA
      exact hKE' _ hA.symm _ _ (st.trans0 s2)
    rw [hd, argsD_cons, if_neg (fun q => h8 q.1), if_neg (by simp [hT])] at hA
    have hwn : ∀ b, OwnB (.slice wa acc.length wc) b → b ≠ rb := fun b q => by have := ow.ge q; omega
    have hb6r : b6 ≠ rb := by omega
    have B62 := B6j.step s2 hb6r
    have B42 := B4j.step s2 hne1
    have ow2 := ow.step s2 (fun b q q' => hwn b q q')
    have hB62 := B62.1
    have hz2 : h'.size ≤ h2.size := s2.ge.sz
    refine ⟨by simp (disch := first | omega | (simp only [e_ssz, e_psz, e_hszs, List.length_cons, List.length_nil]; try omega; done)) only [↓reduceIte, go_sem, e6, B6j.at, B62.at, B62.2.1], ?_⟩
    obtain ⟨x, hx⟩ : ∃ x, x = termD t2 := ⟨_, rfl⟩
    rw [← hx] at hA ⊢
    simp only [termE]
    simp (disch := first | omega | (simp only [e_ssz, e_psz, e_hszs, List.length_cons, List.length_nil]; try omega; done)) only [↓reduceIte, go_sem, e6, B62.at, B62.2.1]
    refine effS_app1q (by simp only []) ow2 (x := x) (by rw [rep_term]; rfl) rfl rfl (by omega) (by omega) fun a3 n3 c3 u3 h3 o3 s3 hO3 => ⟨by simp (disch := first | omega | (simp only [e_ssz, e_psz, e_hszs, List.length_cons, List.length_nil]; try omega; done)) only [go_sem], ?_⟩
    obtain ⟨_, _, hme, m31, m32⟩ := o3.sl
    simp only [Value.slice.injEq] at hme
    obtain ⟨rfl, rfl, rfl⟩ := hme
    obtain ⟨acc2, hacc2⟩ : ∃ acc2, acc2 = acc ++ [x] := ⟨_, rfl⟩
    rw [← hacc2] at hA o3 hO3 m31 ⊢
    have hl2 : acc2.length = acc.length + 1 := by rw [hacc2]; simp
    have B63 := B62.step s3 (fun q => (hwb _ q).2 rfl)
    have B43 := B42.step s3 (fun q => (hwb _ q).1 rfl)
    have hR3 := hR2.step s3 (fun q => hwn _ q rfl)
    have hB63 := B63.1
    have hn3 : ∀ b, OwnB (.slice a3 acc2.length c3) b → b ≠ h.size ∧ b ≠ b6 := fun b q => (hO3 b q).elim (hwb b) (fun z => by omega)
    have B64 := B63.set (i := 1) (v := .slice a3 acc2.length c3) (by simp)
    have s4 := Step.set (S := fun b => b = b6) u3 h3 (b := b6) (o := 1) (.slice a3 acc2.length c3) rfl (by rw [B63.2.2.2.1]; exact Nat.zero_le _)
    obtain ⟨h4, hh4⟩ : ∃ h4, h4 = hset h3 b6 1 (.slice a3 acc2.length c3) := ⟨_, rfl⟩
    rw [← hh4] at B64 s4
    simp only [List.set_cons_succ, List.set_cons_zero] at B64
    have o4 := o3.step s4 (fun b q q' => (hn3 b q).2 q')
    have B44 := B43.step s4 (by omega)
    have hR4 := hR3.step s4 (fun q => hb6r q.symm)
    have st4 : Step (fun b => b = rb) u h u3 h4 := ((st.trans s2 (fun _ _ q => q)).trans s3 (fun b hb q => by have := ow.ge q; omega)).trans s4 (fun b hb q => by omega)
    simp (disch := first | omega | (simp only [e_ssz, e_psz, e_hszs, List.length_cons, List.length_nil]; try omega; done)) only [↓reduceIte, go_sem, e0, e6, B63.2.1, B63.2.2.1, ← hh4]
    refine effS_call (.inl ⟨rfl, u3, rb, sl, L, bad, j + 1, rfl, hR4, fun u5 h5 s5 => ⟨fun hd' => ?_, fun p q hd' => ⟨by simp (disch := first | omega | (simp only [e_ssz, e_psz, e_hszs, List.length_cons, List.length_nil]; try omega; done)) only [go_sem], ?_⟩⟩⟩)
    · have hd2 := (drop_cons hd).2.2
      rw [hd2] at hd'
      subst hd'
      exact hKE' _ hA.symm _ _ (st4.trans0 s5)
    have hd2 := (drop_cons hd).2.2
    have hd2' := hd'
    rw [hd2] at hd'
    subst hd'
    simp only at hA
    obtain ⟨hlt2, -, hd3⟩ := drop_cons hd2'
    have hR5 := hR4.step0 s5
    have B65 := B64.step0 s5
    have B45 := B44.step0 s5
    have o5 := o4.step0 s5
    have st5 := st4.trans0 s5
    have hRB5 := hR5.1
    have hRb5 := hRB5.1
    obtain ⟨h6, hh6, s6, hR6⟩ := hR5.adv hlt2
    have B66 := B65.step s6 hb6r
    have B46 := B45.step s6 hne1
    have o6 := o5.step s6 (fun b q q' => by have := o5.ge q; omega)
    have st6 : Step (fun b => b = rb) u h u5 h6 := st5.trans s6 (fun b _ q => q)
    have hB66 := B66.1
    have hB46 := B46.1
    simp only [tokE]
    by_cases h7 : p.1 = 7
    · rw [if_pos (show tK p = 7 from h7)] at hA
      simp (disch := first | omega | (simp only [e_ssz, e_psz, e_hszs, List.length_cons, List.length_nil]; try omega; done)) only [↓reduceIte, go_sem, eq_true h7, e0, hRB5.at, hRB5.2.1, hRB5.2.2.1, ← hh6]
      refine ⟨j + 1 + 1, ?_, by omega⟩
      rw [hI]
      refine ⟨u5, _, acc2, ?_, ?_, ?_, ?_, st6, hR6, B46, B66, o6, hn3, by omega, by rw [hd3]; exact hA⟩ <;> simp [upd, e0, e1, e4, e6]
    rw [if_neg (show ¬ tK p = 7 from h7)] at hA
    by_cases h6' : p.1 = 6
    · rw [if_pos (show tK p = 6 from h6')] at hA
      have w := B46.sets (l := [str t.2.1, .slice a3 acc2.length c3, .int .i64 t.2.2.2.2.1]) rfl
      have s7 := st6.setsR (b := h.size) (o := 0) (l := [str t.2.1, .slice a3 acc2.length c3, .int .i64 t.2.2.2.2.1]) (.inl (Nat.le_refl _)) (by rw [B46.2.2.2.1]; exact Nat.zero_le _) (by rw [B46.2.1]; exact Nat.le_refl _)
      have s67 := Step.sets (S := fun b => b = h.size) u5 h6 (b := h.size) (o := 0) [str t.2.1, .slice a3 acc2.length c3, .int .i64 t.2.2.2.2.1] rfl (by rw [B46.2.2.2.1]; exact Nat.zero_le _) (by rw [B46.2.1]; exact Nat.le_refl _)
      have hK' := hKO' acc2 _ hA.symm _ _ _ _ s7 (hR6.step s67 (fun q => hne1 q.symm)) hd3 (o6.step s67 (fun b q q' => (hn3 b q).1 q'))
      simp (disch := first | omega | (simp only [e_ssz, e_psz, e_hszs, List.length_cons, List.length_nil]; try omega; done)) only [↓reduceIte, go_sem, eq_false h7, eq_true h6', e0, e4, e6, hRB5.at, hRB5.2.1, hRB5.2.2.1, ← hh6, B66.at, B66.2.1, B46.2.1, B46.2.2.1, w.at, w.2.1]
      exact hK'
    · rw [if_neg (show ¬ tK p = 6 from h6')] at hA
      simp (disch := first | omega | (simp only [e_ssz, e_psz, e_hszs, List.length_cons, List.length_nil]; try omega; done)) only [↓reduceIte, go_sem, eq_false h7, eq_false h6', e0]
      exact effS_call (.inr (.inl ⟨rfl, u5, rb, sl, L, bad, j + 1, rfl, hR5, fun u8 h8 s8 => ⟨fun q => (hd_no hd2' q).elim, fun t' r' hd' => (by obtain ⟨rfl, rfl⟩ := hd_eq hd2' hd'; exact hKE' _ hA.symm _ _ (st5.trans0 s8))⟩⟩))
end Go.Proofs.YtlenjlidahnklaaDoor
