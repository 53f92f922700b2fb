/- Program, walked: the closure that reads, and the function. -/
import Derived.Test.YtlenjlidahnklaaDoorPwB
namespace Edict
theorem progD_nil {bad : Flt} {acc : List ClauseT} : progD bad acc [] = .error bad := by unfold progD; exact allD_nil
theorem progD_end {bad : Flt} {acc : List ClauseT} {t : Tok} {l : List Tok} (h : tK t = 0) : progD bad acc (t :: l) = .ok acc := by unfold progD; exact allD_end h
theorem progD_full {bad : Flt} {acc : List ClauseT} {t : Tok} {l : List Tok} (h0 : tK t ≠ 0) (h : 512 ≤ acc.length ∧ tK t = 1) : progD bad acc (t :: l) = .error (stopD 24 t) := by unfold progD; exact allD_full h0 h
theorem progD_err {bad : Flt} {acc : List ClauseT} {t : Tok} {l : List Tok} {e : Flt} (h0 : tK t ≠ 0) (h : ¬ (512 ≤ acc.length ∧ tK t = 1)) (he : clauseD bad (t :: l) = .error e) : progD bad acc (t :: l) = .error e := by unfold progD; exact allD_err h0 h he
theorem progD_on {bad : Flt} {acc : List ClauseT} {t : Tok} {l : List Tok} {x : ClauseT} {q : List Tok} (h0 : tK t ≠ 0) (h : ¬ (512 ≤ acc.length ∧ tK t = 1)) (he : clauseD bad (t :: l) = .ok (x, q)) : progD bad acc (t :: l) = progD bad (acc ++ [x]) q := by unfold progD; exact allD_on h0 h he
theorem progD_ne (bad : Flt) (l : List Tok) (hg : GoodR l bad) (e : Flt) (h : progD bad [] l = .error e) : e.1 ≠ 0 := ((prog_same hg).1 e h).2
end Edict
namespace Go.Proofs.YtlenjlidahnklaaDoor
open Go Go.Ev Edict
def C_pProgramY (vs : List Value) (h : H) (K : Value → H → Prop) (KP : List PanicEntry → H → Prop) : Prop := ∃ (u : U) (rb xb : Nat) (sl : Value) (L : List Tok) (bad : Flt), vs = [.pointer (some ⟨rb, 0, none⟩), .pointer (some ⟨xb, 0, none⟩)] ∧ RdB u h rb sl L bad 0 ∧ Blk u h xb [.slice none 0 0] ∧ xb ≠ rb ∧
  (∀ e, progD bad [] L = .error e → ∀ u' h', Step (fun b => b = rb ∨ b = xb) u h u' h' → KP (gu e) h') ∧
  (∀ l : List ClauseG, progD bad [] L = .ok (l.map pC) → ∀ u' h' w v, Step (fun b => b = rb ∨ b = xb) u h u' h' → Blk u' h' xb [w] → OwnG h.size u' h' w l → K v h')
def G_pPgY : Ctr := fun f vs h K KP => (f = 27 ∧ C_pPeek vs h K KP) ∨ (f = 28 ∧ C_pStop vs h KP) ∨ (f = 29 ∧ C_pClause vs h K KP)
theorem G_pPgY_ok : GOk Tryd.prog G_pPgY := by
  rintro f vs h K KP (⟨rfl, hC⟩ | ⟨rfl, hC⟩ | ⟨rfl, hC⟩)
  · exact psPeek_ok hC
  · exact psStop_ok hC
  · exact psClause_ok hC
theorem psProgramY_ok {vs : List Value} {h : H} {K : Value → H → Prop} {KP : List PanicEntry → H → Prop} (hC : C_pProgramY vs h K KP) : HCX Tryd.prog 26 vs h K KP := by
  obtain ⟨u, rb, xb, sl, L, bad, rfl, hR, hX, hxr, hKE, hKO⟩ := hC
  refine psProgramY_H G_pPgY G_pPgY_ok _ _ ?_
  have hrb := hR.1.1
  have hxb := hX.1
  have hLl := hR.2.2.2
  have up : ∀ {u1 : U} {h1 : H} {u' : U} {h' : H}, Step (fun b => b = rb) u1 h1 u' h' → Step (fun b => b = rb ∨ b = xb) u1 h1 u' h' := fun s => s.mono (fun _ _ q => .inl q)
  obtain ⟨R, hRR⟩ : ∃ R, progD bad [] L = R := ⟨_, rfl⟩
  rw [hRR] at hKE hKO
  simp (disch := first | omega | (simp only [e_ssz, e_psz, e_hszs, List.length_cons, List.length_nil]; try omega; done)) only [go_sem, psProgramY_S, psProgramY_E]
  obtain ⟨I, hI⟩ : ∃ I : Nat → Env → H → Prop, I = fun j σ h' => ∃ (u' : U) (w : Value) (acc : List ClauseG), σ 0 = .pointer (some ⟨rb, 0, none⟩) ∧ σ 1 = .pointer (some ⟨xb, 0, none⟩) ∧ Step (fun b => b = rb ∨ b = xb) u h u' h' ∧ RdB u' h' rb sl L bad j ∧ Blk u' h' xb [w] ∧ OwnG h.size u' h' w acc ∧ acc.length ≤ 512 ∧ progD bad (acc.map pC) (L.drop j) = R := ⟨_, rfl⟩
  refine wpS_loop I (fun j => L.length - j) 0 (by rw [hI]; exact ⟨u, _, [], by simp [upd], by simp [upd], Step.refl _ _ _, hR, hX, .nil _ _ _, by simp, by rw [List.drop_zero]; exact hRR⟩) ?_
  clear hRR
  intro j σ h' hy
  rw [hI] at hy
  obtain ⟨u', w, acc, e0, e1, st, hRj, X, ow, hacc, hA⟩ := hy
  obtain ⟨wa, wc, rfl, m1, m2⟩ := ow.sl
  obtain ⟨ap, hap⟩ : ∃ ap, ap = acc.map pC := ⟨_, rfl⟩
  have hapl : ap.length = acc.length := by rw [hap, List.length_map]
  rw [← hap] at hA
  have hX1 := X.1
  have hz := st.ge.sz
  simp (disch := first | omega | (simp only [e_ssz, e_psz, e_hszs, List.length_cons, List.length_nil]; try omega; done)) only [go_sem, psProgramY_L1, e0]
  refine effS_call (.inl ⟨rfl, u', rb, sl, L, bad, j, rfl, hRj, fun u2 h2 s2 => ⟨fun hd => ?_, fun t r hd => ⟨by simp (disch := first | omega | (simp only [e_ssz, e_psz, e_hszs, List.length_cons, List.length_nil]; try omega; done)) only [go_sem], ?_⟩⟩⟩)
  · rw [hd, progD_nil] at hA
    exact hKE _ hA.symm _ _ (st.trans0 s2)
  have hR2 := hRj.step0 s2
  have X2 := X.step0 s2
  have ow2 := ow.step0 s2
  have st2 := st.trans0 s2
  have hX2 := X2.1
  rw [hd] at hA
  simp only [tokE]
  by_cases h0 : t.1 = 0
  · rw [progD_end (show tK t = 0 from h0)] at hA
    simp (disch := first | omega | (simp only [e_ssz, e_psz, e_hszs, List.length_cons, List.length_nil]; try omega; done)) only [↓reduceIte, go_sem, eq_true h0]
    rw [hap] at hA
    exact hKO _ hA.symm _ _ _ _ st2 X2 ow2
  have h0' : tK t ≠ 0 := h0
  have hwr : ∀ b, OwnB (.slice wa acc.length wc) b → b ≠ rb ∧ b ≠ xb := fun b q => by have := ow.ge q; omega
  by_cases hfull : 512 ≤ acc.length
  · simp (disch := first | omega | (simp only [e_ssz, e_psz, e_hszs, List.length_cons, List.length_nil]; try omega; done)) only [↓reduceIte, go_sem, eq_false h0, e0, e1, X2.at, X2.2.1, eq_true (show (512 : Int) ≤ (acc.length : Nat) by omega)]
    refine effS_call (.inl ⟨rfl, u2, rb, sl, L, bad, j, rfl, hR2, fun u3 h3 s3 => ⟨fun q => (hd_no hd q).elim, fun t' r' hd' => ⟨by simp (disch := first | omega | (simp only [e_ssz, e_psz, e_hszs, List.length_cons, List.length_nil]; try omega; done)) only [go_sem], ?_⟩⟩⟩)
    obtain ⟨rfl, rfl⟩ := hd_eq hd hd'
    have hR3 := hR2.step0 s3
    have st3 := st2.trans0 s3
    have X3 := X2.step0 s3
    have hX3 := X3.1
    simp only [tokE]
    by_cases h1 : t.1 = 1
    · rw [progD_full h0' ⟨by omega, h1⟩] at hA
      simp (disch := first | omega | (simp only [e_ssz, e_psz, e_hszs, List.length_cons, List.length_nil]; try omega; done)) only [↓reduceIte, go_sem, eq_true h1, e0]
      exact effS_call (.inr (.inl ⟨rfl, u3, rb, sl, L, bad, j, 24, rfl, hR3, fun u5 h5 s5 => ⟨fun q => (hd_no hd q).elim, fun t' r' hd' => (by obtain ⟨rfl, rfl⟩ := hd_eq hd hd'; exact hKE _ hA.symm _ _ (st3.trans0 s5))⟩⟩))
    · obtain ⟨e, he⟩ : ∃ e, clauseD bad (t :: r) = .error e := ⟨_, clauseD_err (atomD_no (show tK t ≠ 1 from h1))⟩
      rw [progD_err h0' (fun q => h1 q.2) he] at hA
      simp (disch := first | omega | (simp only [e_ssz, e_psz, e_hszs, List.length_cons, List.length_nil]; try omega; done)) only [↓reduceIte, go_sem, eq_false h1, e0, e1, X3.at, X3.2.1]
      refine effS_call (.inr (.inr ⟨rfl, u3, rb, sl, L, bad, j, rfl, hR3, fun e' he' u5 h5 s5 => ?_, fun x q hx => ?_⟩))
      · rw [hd, he] at he'
        cases he'
        exact hKE _ hA.symm _ _ (st3.trans (up s5) (fun _ _ q => q))
      · rw [hd, he] at hx
        cases hx
  · have hnf : ¬ (512 ≤ ap.length ∧ tK t = 1) := fun q => hfull (by have := q.1; omega)
    simp (disch := first | omega | (simp only [e_ssz, e_psz, e_hszs, List.length_cons, List.length_nil]; try omega; done)) only [↓reduceIte, go_sem, eq_false h0, e0, e1, X2.at, X2.2.1, eq_false (show ¬ (512 : Int) ≤ (acc.length : Nat) by omega)]
    refine effS_call (.inr (.inr ⟨rfl, u2, rb, sl, L, bad, j, rfl, hR2, fun e he u5 h5 s5 => ?_, fun a q ha u3 h3 v3 w3 i3 s3 hR3 hd3 iv3 iw3 tg3 => ?_⟩))
    · rw [hd] at he
      rw [progD_err h0' hnf he] at hA
      exact hKE _ hA.symm _ _ (st2.trans (up s5) (fun _ _ q => q))
    rw [hd] at ha
    have hlen3 := clauseD_len ha
    rw [progD_on h0' hnf ha] at hA
    clear ha
    have X3 := X2.step s3 hxr
    have ow3 := ow2.step s3 (fun b q q' => (hwr b q).1 q')
    have st3 := st2.trans (up s3) (fun _ _ q => q)
    have hX3 := X3.1
    have hz3 := st3.ge.sz
    have hrep : Rep.rep u3 h3 a [str a.1.1, v3, .int .i64 a.1.2.2, w3] := by rw [rep_clauseG]; exact ⟨_, _, rfl, iv3, iw3⟩
    obtain ⟨_, e, iv3, -⟩ := iv3
    cases e
    obtain ⟨_, e, iw3, -⟩ := iw3
    cases e
    obtain ⟨v3a, v3c, rfl, k1, k2⟩ := iv3.sl
    obtain ⟨w3a, w3c, rfl, k3, k4⟩ := iw3.sl
    have hz23 := s3.ge.sz
    have hz12 := st2.ge.sz
    refine ⟨by simp (disch := first | omega | (simp only [e_ssz, e_psz, e_hszs, List.length_cons, List.length_nil]; try omega; done)) only [↓reduceIte, go_sem, e1, X2.at, X3.at, X3.2.1], ?_⟩
    have X3' : Blk (ub u3 h3.size 0) (h3.push (.cells #[str a.1.1, .slice v3a a.1.2.1.l.length v3c, .int .i64 a.1.2.2, .slice w3a a.2.l.length w3c] 62)) xb [.slice wa acc.length wc] := X3.step0 (Step.push0 S0 u3 h3 _ _)
    simp (disch := first | omega | (simp only [e_ssz, e_psz, e_hszs, List.length_cons, List.length_nil]; try omega; done)) only [↓reduceIte, go_sem, e1, X3.at, X3.2.1]
    refine effS_app1g (by simp only []) ow3 (x := a) ow2.tg tg3 (by omega) (by omega) hrep rfl rfl (by omega) (by omega) fun a5 n5 c5 u5 h5 o5 s5 hO5 => ⟨by simp (disch := first | omega | (simp only [e_ssz, e_psz, e_hszs, List.length_cons, List.length_nil]; try omega; done)) only [go_sem], ?_⟩
    obtain ⟨_, _, hme, m51, m52⟩ := o5.sl
    simp only [Value.slice.injEq] at hme
    obtain ⟨rfl, rfl, rfl⟩ := hme
    obtain ⟨ac2, hac2⟩ : ∃ ac2, ac2 = acc ++ [a] := ⟨_, rfl⟩
    rw [show ap ++ [pC a] = (acc ++ [a]).map pC by rw [List.map_append, ← hap]; rfl] at hA
    have hl2 : ac2.length = acc.length + 1 := by rw [hac2]; simp
    rw [← hac2] at o5 hO5 m51 hA ⊢
    have X5 := X3.step s5 (fun q => (hwr _ q).2 rfl)
    have hR5 := hR3.step s5 (fun q => (hwr _ q).1 rfl)
    have hX5 := X5.1
    have X6 := X5.set (i := 0) (v := .slice a5 ac2.length c5) (by simp)
    have s6 := Step.set (S := fun b => b = xb) u5 h5 (b := xb) (o := 0) (.slice a5 ac2.length c5) rfl (by rw [X5.2.2.2.1]; exact Nat.zero_le _)
    obtain ⟨h6, hh6⟩ : ∃ h6, h6 = hset h5 xb 0 (.slice a5 ac2.length c5) := ⟨_, rfl⟩
    rw [← hh6] at X6 s6
    simp only [List.set_cons_zero] at X6
    have o6 := o5.step s6 (fun b q q' => by have := o5.ge q; omega)
    have hR6 := hR5.step s6 (fun q => hxr q.symm)
    have st6 := (st3.trans s5 (fun b hb q => by have := ow3.ge q; omega)).trans s6 (fun b _ q => .inr q)
    have hlt8 : j < i3 := by
      have hi3 : i3 ≤ L.length := hR3.2.1
      have e1 : (L.drop i3).length = q.length := by rw [hd3]
      have e2 : (L.drop j).length = r.length + 1 := by rw [hd]; rfl
      rw [List.length_drop] at e1 e2
      simp only [List.length_cons] at hlen3
      omega
    simp (disch := first | omega | (simp only [e_ssz, e_psz, e_hszs, List.length_cons, List.length_nil]; try omega; done)) only [↓reduceIte, go_sem, X5.2.1, X5.2.2.1, ← hh6, e1]
    refine ⟨i3, ?_, by have := hR3.2.1; omega⟩
    rw [hI]
    refine ⟨u5, _, ac2, ?_, ?_, st6, hR6, X6, o6, by omega, by rw [hd3]; exact hA⟩ <;> simp [upd, e0, e1]
def progA : S := sF (sS (sS psProgram_S))
def progB : S := sS (sS (sS psProgram_S))
theorem prog_cut : psProgram_S = .seq (sF psProgram_S) (.seq (sF (sS psProgram_S)) (.seq progA progB)) := rfl
/-- What Program answers. -/
def C_pProgram (vs : List Value) (h : H) (K : Value → H → Prop) : Prop := ∃ (u : U) (src : List UInt8), vs = [str src] ∧ src.length ≤ 9223372036854775807 ∧ LxG u h ∧
  (∀ e, parseF (fun b l => progD b [] l) src = .error e → ∀ u' h', Step S0 u h u' h' → K (.tuple #[.agg #[.slice none 0 0], fltV e]) h') ∧
  (∀ a : List ClauseG, parseF (fun b l => progD b [] l) src = .ok (a.map pC) → ∀ u' h' w, Step S0 u h u' h' → OwnG h.size u' h' w a → K (.tuple #[.agg #[w], fltV (0, 0)]) h')
def G_pPg : Ctr := fun f vs h K KP => f = 25 ∧ C_guarded vs h K
theorem G_pPg_ok : GOk Tryd.prog G_pPg := by
  rintro f vs h K KP ⟨rfl, hC⟩; exact psGuarded_ok hC
theorem psProgram_ok {vs : List Value} {h : H} {K : Value → H → Prop} {KP : List PanicEntry → H → Prop} (hC : C_pProgram vs h K) : HCX Tryd.prog 11 vs h K KP := by
  obtain ⟨u, src, rfl, hl, hG, hKE, hKO⟩ := hC
  refine psProgram_H G_pPg G_pPg_ok _ ?_
  have s1 := Step.push0 S0 u h #[.slice none 0 0] 24
  have B1 := Blk.new (u := u) (h := h) [.slice none 0 0] 24
  obtain ⟨h1, hh1⟩ : ∃ h1, h1 = h.push (.cells #[.slice none 0 0] 24) := ⟨_, rfl⟩
  obtain ⟨u1, hu1⟩ : ∃ u1, u1 = ub u h.size 0 := ⟨_, rfl⟩
  have B1' : Blk u1 h1 h.size [.slice none 0 0] := by rw [hu1, hh1]; exact B1
  rw [← hh1, ← hu1] at s1
  clear B1
  have s2 := Step.push0 S0 u1 h1 #[.int .i64 0, .int .i64 0, .int .i64 0] 27
  have B2 := Blk.new (u := u1) (h := h1) [.int .i64 0, .int .i64 0, .int .i64 0] 27
  obtain ⟨h2, hh2⟩ : ∃ h2, h2 = h1.push (.cells #[.int .i64 0, .int .i64 0, .int .i64 0] 27) := ⟨_, rfl⟩
  obtain ⟨u2, hu2⟩ : ∃ u2, u2 = ub u1 h1.size 0 := ⟨_, rfl⟩
  have B2' : Blk u2 h2 h1.size [.int .i64 0, .int .i64 0, .int .i64 0] := by rw [hu2, hh2]; exact B2
  rw [← hh2, ← hu2] at s2
  clear B2
  have s3 := Step.push0 S0 u2 h2 #[.slice none 0 0] 24
  have B3 := Blk.new (u := u2) (h := h2) [.slice none 0 0] 24
  obtain ⟨h3, hh3⟩ : ∃ h3, h3 = h2.push (.cells #[.slice none 0 0] 24) := ⟨_, rfl⟩
  obtain ⟨u3, hu3⟩ : ∃ u3, u3 = ub u2 h2.size 0 := ⟨_, rfl⟩
  have B3' : Blk u3 h3 h2.size [.slice none 0 0] := by rw [hu3, hh3]; exact B3
  rw [← hh3, ← hu3] at s3
  clear B3
  have z1 : h1.size = h.size + 1 := by rw [hh1]; simp
  have z2 : h2.size = h1.size + 1 := by rw [hh2]; simp
  have z3 : h3.size = h2.size + 1 := by rw [hh3]; simp
  have st3 := (s1.trans0 s2).trans0 s3
  have A1 := (B1'.step0 s2).step0 s3
  have A2 := B2'.step0 s3
  obtain ⟨T, hT⟩ : ∃ T : Flt → U → H → Prop, T = fun f uE h' => Step S0 u h uE h' ∧ Blk uE h' h.size [.slice none 0 0] ∧ Blk uE h' h1.size [.int .i64 0, .int .i64 0, .int .i64 0] ∧ h2.size < h'.size ∧
    ((f.1 ≠ 0 ∧ parseF (fun b l => progD b [] l) src = .error f) ∨ (f = (0, 0) ∧ ∃ (a : List ClauseG) (w : Value), parseF (fun b l => progD b [] l) src = .ok (a.map pC) ∧ Blk uE h' h2.size [w] ∧ OwnG h3.size uE h' w a)) := ⟨_, rfl⟩
  obtain ⟨M, hM⟩ : ∃ M : Env → H → Prop, M = fun σ' h' => ∃ (f : Flt) (uE : U) (b5 : Nat), σ' 2 = .pointer (some ⟨h.size, 0, none⟩) ∧ σ' 3 = .pointer (some ⟨h1.size, 0, none⟩) ∧ σ' 4 = .pointer (some ⟨h2.size, 0, none⟩) ∧ σ' 5 = .pointer (some ⟨b5, 0, none⟩) ∧ T f uE h' ∧ Blk uE h' b5 [.int .i64 f.1, .int .i64 0, .int .i64 f.2] ∧ h2.size < b5 := ⟨_, rfl⟩
  rw [prog_cut]
  simp (disch := first | omega | (simp only [e_ssz, e_psz, e_hszs, List.length_cons, List.length_nil]; try omega; done)) only [go_sem, sF, sS, psProgram_S, psProgram_E, ← hh1, ← hh2, ← hh3]
  have cut : ∀ (A B : S) (Q : Post) (σ : Env) (h : H), (∀ R : Env → H → Prop, (∀ σ' h', M σ' h' → R σ' h') → wpS G_pPg A (Qseq R Q) σ h) → (∀ σ' h', M σ' h' → wpS G_pPg B Q σ' h') → wpS G_pPg A (Qseq (wpS G_pPg B Q) Q) σ h := fun A B Q σ h k1 k2 => k1 _ k2
  refine cut _ _ _ _ _ ?_ ?_
  · intro R hR
    have fin : ∀ (f : Flt) (uE : U) (hE : H) (σ0 : Env) (Q : Post) (KPx : List PanicEntry → H → Prop), σ0 2 = .pointer (some ⟨h.size, 0, none⟩) → σ0 3 = .pointer (some ⟨h1.size, 0, none⟩) → σ0 4 = .pointer (some ⟨h2.size, 0, none⟩) → T f uE hE →
        wpSts G_pPg [St.eff [] (some 5) (F.alloc 27 #[.int .i64 0, .int .i64 0, .int .i64 0]) [] [], St.eff [] none (F.store 3) [E.t 5, E.t 8] []] (Qseq R Q Exit.normal) KPx (updo σ0 (some 8) (fltV f)) hE := by
      intro f uE hE σ0 Q KPx e2 e3 e4 hTf
      obtain ⟨h5, h6, u6, hh5, hh6, B5, B6, s6, hz6⟩ := boxed uE hE [.int .i64 0, .int .i64 0, .int .i64 0] [.int .i64 f.1, .int .i64 0, .int .i64 f.2] 27 rfl
      rw [hT] at hTf
      obtain ⟨st, A1', A2', hz, hres⟩ := hTf
      have B51 := B5.1
      simp only [fltV]
      simp (disch := first | omega | (simp only [e_ssz, e_psz, e_hszs, List.length_cons, List.length_nil]; try omega; done)) only [↓reduceIte, go_sem, ← hh5, ← hh6, B5.2.1, B5.2.2.1]
      apply hR
      rw [hM, hT]
      refine ⟨f, u6, hE.size, by simp [upd, e2], by simp [upd, e3], by simp [upd, e4], by simp [upd], ⟨st.trans0 s6, A1'.step0 s6, A2'.step0 s6, by omega, ?_⟩, B6, hz⟩
      rcases hres with q | ⟨q, a, w, q1, q2, q3⟩
      · exact .inl q
      · exact .inr ⟨q, a, w, q1, q2.step0 s6, q3.step0 s6⟩
    simp (disch := first | omega | (simp only [e_ssz, e_psz, e_hszs, List.length_cons, List.length_nil]; try omega; done)) only [↓reduceIte, go_sem, progA, sF, sS, psProgram_S]
    refine effS_call ⟨rfl, u3, src, 26, [.pointer (some ⟨h2.size, 0, none⟩)], fun b => b = h2.size, rfl, hl, hG.mono st3.ge, fun b q => (by omega), fun hlong u4 h4 s4 => ⟨by simp (disch := first | omega | (simp only [e_ssz, e_psz, e_hszs, List.length_cons, List.length_nil]; try omega; done)) only [go_sem], ?_⟩, fun hshort u4 h4 rb fb sl s4 hrb hfb hfr hfl hRd => ?_⟩
    · refine fin (1, 0) u4 h4 _ _ _ (by simp [upd]) (by simp [upd]) (by simp [upd]) ?_
      rw [hT]
      exact ⟨st3.trans0 s4, A1.step0 s4, A2.step0 s4, by have := s4.ge.sz; omega, .inl ⟨(show (1 : Int) ≠ 0 by decide), by unfold parseF; rw [if_pos hlong]⟩⟩
    · have hpf : parseF (fun b l => progD b [] l) src = (fun b l => progD b [] l) (badF src) (scanF src).1 := by unfold parseF; rw [if_neg (by omega)]
      refine psProgramY_ok ⟨u4, rb, h2.size, sl, _, _, rfl, hRd, B3'.step0 s4, by omega, fun e he u5 h5 s5 => ⟨u5, e, rfl, s5.mono (fun b _ q => q), fun u6 h6 s6 => ⟨by simp (disch := first | omega | (simp only [e_ssz, e_psz, e_hszs, List.length_cons, List.length_nil]; try omega; done)) only [go_sem], ?_⟩⟩, fun a ha u5 h5 w v s5 hX ow => ⟨u5, s5.mono (fun b _ q => q), fun u6 h6 s6 => ⟨by simp (disch := first | omega | (simp only [e_ssz, e_psz, e_hszs, List.length_cons, List.length_nil]; try omega; done)) only [go_sem], ?_⟩⟩⟩
      · refine fin e u6 h6 _ _ _ (by simp [upd]) (by simp [upd]) (by simp [upd]) ?_
        rw [hT]
        exact ⟨((st3.trans0 s4).trans s5 (fun b hb q => by omega)).trans s6 (fun b hb q => by omega), ((A1.step0 s4).step s5 (by omega)).step s6 (by omega), ((A2.step0 s4).step s5 (by omega)).step s6 (by omega), by have := s4.ge.sz; have := s5.ge.sz; have := s6.ge.sz; omega, .inl ⟨progD_ne _ _ (good_src hshort) e he, by rw [hpf]; exact he⟩⟩
      · refine fin (0, 0) u6 h6 _ _ _ (by simp [upd]) (by simp [upd]) (by simp [upd]) ?_
        rw [hT]
        have hz4 := s4.ge.sz
        exact ⟨((st3.trans0 s4).trans s5 (fun b hb q => by omega)).trans s6 (fun b hb q => by omega), ((A1.step0 s4).step s5 (by omega)).step s6 (by omega), ((A2.step0 s4).step s5 (by omega)).step s6 (by omega), by have := s5.ge.sz; have := s6.ge.sz; omega, .inr ⟨rfl, a, w, by rw [hpf]; exact ha, hX.step s6 (by omega), (ow.step s6 (fun b q q' => by have := ow.ge q; omega)).mono hz4⟩⟩
  · intro σ' h' hm
    rw [hM] at hm
    obtain ⟨f, uE, b5, e2, e3, e4, e5, hTf, A5, hb5⟩ := hm
    rw [hT] at hTf
    obtain ⟨st, A1', A2', hz, hres⟩ := hTf
    have A11 := A1'.1
    have A21 := A2'.1
    have A51 := A5.1
    rcases hres with ⟨hf, hp⟩ | ⟨rfl, a, w, hp, X, ow⟩
    · skip
      have A17 := A1'.sets (l := [.slice none 0 0]) rfl
      have s7 := Step.sets (S := fun b => b = h.size) uE h' (b := h.size) (o := 0) [.slice none 0 0] rfl (by rw [A1'.2.2.2.1]; exact Nat.zero_le _) (by rw [A1'.2.1]; exact Nat.le_refl _)
      obtain ⟨h7, hh7⟩ : ∃ h7, h7 = hsets h' h.size 0 [.slice none 0 0] := ⟨_, rfl⟩
      rw [← hh7] at A17 s7
      have A27 := A2'.step s7 (by omega)
      have A57 := A5.step s7 (by omega)
      have A28 := A27.sets (l := [.int .i64 f.1, .int .i64 0, .int .i64 f.2]) rfl
      have s8 := Step.sets (S := fun b => b = h1.size) uE h7 (b := h1.size) (o := 0) [.int .i64 f.1, .int .i64 0, .int .i64 f.2] rfl (by rw [A27.2.2.2.1]; exact Nat.zero_le _) (by rw [A27.2.1]; exact Nat.le_refl _)
      obtain ⟨h8, hh8⟩ : ∃ h8, h8 = hsets h7 h1.size 0 [.int .i64 f.1, .int .i64 0, .int .i64 f.2] := ⟨_, rfl⟩
      rw [← hh8] at A28 s8
      have A18 := A17.step s8 (by omega)
      have st8 := (st.trans s7 (fun b hb q => by omega)).trans s8 (fun b hb q => by omega)
      have A181 := A18.1
      have A281 := A28.1
      have A571 := A57.1
      have A271 := A27.1
      simp (disch := first | omega | (simp only [e_ssz, e_psz, e_hszs, List.length_cons, List.length_nil]; try omega; done)) only [↓reduceIte, go_sem, progB, sS, psProgram_S, e2, e3, e5, A5.at, A5.2.1, hf, A1'.2.1, A1'.2.2.1, ← hh7, A57.at, A57.2.1, A27.2.1, A27.2.2.1, ← hh8, A18.at, A18.2.1, A28.at, A28.2.1]
      exact hKE f hp _ _ st8
    · have X1 := X.1
      have A17 := A1'.sets (l := [w]) rfl
      have s7 := Step.sets (S := fun b => b = h.size) uE h' (b := h.size) (o := 0) [w] rfl (by rw [A1'.2.2.2.1]; exact Nat.zero_le _) (by rw [A1'.2.1]; exact Nat.le_refl _)
      obtain ⟨h7, hh7⟩ : ∃ h7, h7 = hsets h' h.size 0 [w] := ⟨_, rfl⟩
      rw [← hh7] at A17 s7
      have A27 := A2'.step s7 (by omega)
      have A57 := A5.step s7 (by omega)
      have A28 := A27.sets (l := [.int .i64 0, .int .i64 0, .int .i64 0]) rfl
      have s8 := Step.sets (S := fun b => b = h1.size) uE h7 (b := h1.size) (o := 0) [.int .i64 0, .int .i64 0, .int .i64 0] rfl (by rw [A27.2.2.2.1]; exact Nat.zero_le _) (by rw [A27.2.1]; exact Nat.le_refl _)
      obtain ⟨h8, hh8⟩ : ∃ h8, h8 = hsets h7 h1.size 0 [.int .i64 0, .int .i64 0, .int .i64 0] := ⟨_, rfl⟩
      rw [← hh8] at A28 s8
      have A18 := A17.step s8 (by omega)
      have st8 := (st.trans s7 (fun b hb q => by omega)).trans s8 (fun b hb q => by omega)
      have A181 := A18.1
      have A281 := A28.1
      have A571 := A57.1
      have A271 := A27.1
      have ow8 := (ow.step s7 (fun b q q' => by have := ow.ge q; omega)).step s8 (fun b q q' => by have := ow.ge q; omega)
      obtain ⟨xa, xc, rfl, n1, n2⟩ := ow.sl
      simp (disch := first | omega | (simp only [e_ssz, e_psz, e_hszs, List.length_cons, List.length_nil]; try omega; done)) only [↓reduceIte, go_sem, progB, sS, psProgram_S, e2, e3, e4, e5, A5.at, A5.2.1, A1'.2.1, A1'.2.2.1, X.at, X.2.1, ← hh7, A57.at, A57.2.1, A27.2.1, A27.2.2.1, ← hh8, A18.at, A18.2.1, A28.at, A28.2.1]
      exact hKO a hp _ _ _ st8 (ow8.mono (by omega))
end Go.Proofs.YtlenjlidahnklaaDoor
