/- The reader of clauses, walked: begins, opBehind, literal. -/
import Derived.Test.YtlenjlidahnklaaDoorPwA
namespace Edict
def begB (k : Int) : Bool := decide (k = 10) || isT k true
/-- A comparison, once its kind is known. -/
def testD (bad : Flt) (t : Tok) (l : List Tok) : PR LitT := if isT (tK t) true = false then .error (refuseD t) else
      match l with
      | [] => .error bad
      | o :: r => if tK o ≠ 11 then .error (refuseD o) else
        match r with
        | [] => .error bad
        | y :: q => if isT (tK y) true = false then .error (refuseD y) else .ok ((3, noAtom, tP o, termD t, termD y, tO t), q)
section
variable {bad : Flt} {t o y : Tok} {l r q : List Tok} {e : Flt} {a : AtomT}
theorem litD_nil : litD bad [] = .error bad := rfl
theorem litD_notE (h : tK t = 10) (he : atomD bad true l = .error e) : litD bad (t :: l) = .error e := by
  show (if tK t = 10 then _ else _) = _
  rw [if_pos h, he]
theorem litD_notO (h : tK t = 10) (he : atomD bad true l = .ok (a, q)) : litD bad (t :: l) = .ok ((2, a, 0, noTerm, noTerm, tO t), q) := by
  show (if tK t = 10 then _ else _) = _
  rw [if_pos h, he]
theorem litD_posE (h : tK t ≠ 10) (h1 : tK t = 1 ∧ opBeh l = false) (he : atomD bad true (t :: l) = .error e) : litD bad (t :: l) = .error e := by
  show (if tK t = 10 then _ else if _ then _ else _) = _
  rw [if_neg h, if_pos h1, he]
theorem litD_posO (h : tK t ≠ 10) (h1 : tK t = 1 ∧ opBeh l = false) (he : atomD bad true (t :: l) = .ok (a, q)) : litD bad (t :: l) = .ok ((1, a, 0, noTerm, noTerm, tO t), q) := by
  show (if tK t = 10 then _ else if _ then _ else _) = _
  rw [if_neg h, if_pos h1, he]
theorem litD_test (h : tK t ≠ 10) (h1 : ¬ (tK t = 1 ∧ opBeh l = false)) : litD bad (t :: l) = testD bad t l := by
  show (if tK t = 10 then _ else if _ then _ else _) = _
  rw [if_neg h, if_neg h1]
  cases l with
  | nil => rfl
  | cons o r => cases r <;> rfl
theorem testD_1 (h : isT (tK t) true = false) : testD bad t l = .error (refuseD t) := by unfold testD; rw [if_pos h]
theorem testD_2 (h : isT (tK t) true = true) : testD bad t [] = .error bad := by unfold testD; rw [if_neg (by simp [h])]
theorem testD_3 (h : isT (tK t) true = true) (ho : tK o ≠ 11) : testD bad t (o :: r) = .error (refuseD o) := by unfold testD; rw [if_neg (by simp [h])]; show (if tK o ≠ 11 then _ else _) = _; rw [if_pos ho]
theorem testD_4 (h : isT (tK t) true = true) (ho : tK o = 11) : testD bad t [o] = .error bad := by unfold testD; rw [if_neg (by simp [h])]; show (if tK o ≠ 11 then _ else _) = _; rw [if_neg (by simp [ho])]
theorem testD_5 (h : isT (tK t) true = true) (ho : tK o = 11) (hy : isT (tK y) true = false) : testD bad t (o :: y :: q) = .error (refuseD y) := by unfold testD; rw [if_neg (by simp [h])]; show (if tK o ≠ 11 then _ else _) = _; rw [if_neg (by simp [ho])]; show (if isT (tK y) true = false then _ else _) = _; rw [if_pos hy]
theorem testD_6 (h : isT (tK t) true = true) (ho : tK o = 11) (hy : isT (tK y) true = true) : testD bad t (o :: y :: q) = .ok ((3, noAtom, tP o, termD t, termD y, tO t), q) := by unfold testD; rw [if_neg (by simp [h])]; show (if tK o ≠ 11 then _ else _) = _; rw [if_neg (by simp [ho])]; show (if isT (tK y) true = false then _ else _) = _; rw [if_neg (by simp [hy])]
end
theorem argsD_le (bad : Flt) (vars : Bool) : ∀ (l : List Tok) (acc a : List TermT) (q : List Tok), argsD bad vars acc l = .ok (a, q) → acc.length ≤ 8 → (∀ n, n = l.length → True) → a.length ≤ 9
  | [], acc, a, q, h, _, _ => by unfold argsD at h; cases h
  | [t], acc, a, q, h, _, _ => by
    unfold argsD at h
    split at h
    · cases h
    · split at h <;> cases h
  | t :: c :: r, acc, a, q, h, ha, _ => by
    rw [argsD_cons] at h
    by_cases h8 : 8 ≤ acc.length
    · split at h
      · cases h
      · rename_i hn
        split at h
        · cases h
        · rename_i hT
          exact absurd ⟨h8, by simpa using hT⟩ hn
    · rw [if_neg (fun q => h8 q.1)] at h
      split at h
      · cases h
      · simp only at h
        split at h
        · exact argsD_le bad vars r _ a q h (by rw [List.length_append, List.length_singleton]; omega) (fun _ _ => trivial)
        · split at h
          · simp only [Except.ok.injEq, Prod.mk.injEq] at h
            rw [← h.1, List.length_append, List.length_singleton]; omega
          · cases h
theorem atomD_le {bad : Flt} {v : Bool} {l q : List Tok} {a : AtomT} (h : atomD bad v l = .ok (a, q)) : a.2.1.length ≤ 9 := by
  unfold atomD at h
  split at h
  · cases h
  · split at h
    · cases h
    · split at h
      · cases h
      · split at h
        · simp only [Except.ok.injEq, Prod.mk.injEq] at h
          rw [← h.1]; exact Nat.zero_le _
        · split at h
          · cases h
          · rename_i e
            simp only [Except.ok.injEq, Prod.mk.injEq] at h
            rw [← h.1]
            exact argsD_le _ _ _ _ _ _ e (Nat.zero_le _) (fun _ _ => trivial)
theorem litD_le {bad : Flt} {l q : List Tok} {x : LitT} (h : litD bad l = .ok (x, q)) : x.2.1.2.1.length ≤ 9 := by
  cases l with
  | nil => cases h
  | cons t l =>
    by_cases h10 : tK t = 10
    · cases ha : atomD bad true l with
      | error e => rw [litD_notE h10 ha] at h; cases h
      | ok p =>
        obtain ⟨a, r⟩ := p
        rw [litD_notO h10 ha] at h
        simp only [Except.ok.injEq, Prod.mk.injEq] at h
        rw [← h.1]; exact atomD_le ha
    · by_cases h1 : tK t = 1 ∧ opBeh l = false
      · cases ha : atomD bad true (t :: l) with
        | error e => rw [litD_posE h10 h1 ha] at h; cases h
        | ok p =>
          obtain ⟨a, r⟩ := p
          rw [litD_posO h10 h1 ha] at h
          simp only [Except.ok.injEq, Prod.mk.injEq] at h
          rw [← h.1]; exact atomD_le ha
      · rw [litD_test h10 h1] at h
        unfold testD at h
        split at h
        · cases h
        · split at h
          · cases h
          · split at h
            · cases h
            · split at h
              · cases h
              · split at h
                · cases h
                · simp only [Except.ok.injEq, Prod.mk.injEq] at h
                  rw [← h.1]; exact Nat.zero_le _
/-- A literal's cells; its atom's terms lie at w. -/
def litE (x : LitT) (w : Go.Value) : List Go.Value := [.int .i64 x.1, Go.Ev.str x.2.1.1, w, .int .i64 x.2.1.2.2, .int .i64 x.2.2.1, .int .i64 x.2.2.2.1.1, .int .i64 x.2.2.2.1.2.1, Go.Ev.str x.2.2.2.1.2.2.1, .int .i64 x.2.2.2.1.2.2.2, .int .i64 x.2.2.2.2.1.1, .int .i64 x.2.2.2.2.1.2.1, Go.Ev.str x.2.2.2.2.1.2.2.1, .int .i64 x.2.2.2.2.1.2.2.2, .int .i64 x.2.2.2.2.2]
end Edict
namespace Go.Ev
theorem Blk.sets4 {u : U} {h : H} {b : Nat} {cs : List Value} {o : Nat} {x0 x1 x2 x3 : Value} (k : Blk u h b cs) (ho : o + 4 ≤ cs.length) : Blk u (hsets h b o [x0, x1, x2, x3]) b ((((cs.set o x0).set (o + 1) x1).set (o + 2) x2).set (o + 3) x3) :=
  (((k.set (i := o) (v := x0) (by omega)).set (i := o + 1) (v := x1) (by simp; omega)).set (i := o + 2) (v := x2) (by simp; omega)).set (i := o + 3) (v := x3) (by simp; omega)
end Go.Ev
namespace Go.Proofs.YtlenjlidahnklaaDoor
open Go Go.Ev Edict
def C_pBegins (vs : List Value) (h : H) (K : Value → H → Prop) : Prop := ∃ (k : Int), vs = [.int .i64 k] ∧ K (.bool (begB k)) h
def G_pBg : Ctr := fun f vs h K KP => f = 42 ∧ C_pIsTerm vs h K
theorem G_pBg_ok : GOk Tryd.prog G_pBg := by
  rintro f vs h K KP ⟨rfl, hC⟩; exact psIsTerm_ok hC
theorem psBegins_ok {vs : List Value} {h : H} {K : Value → H → Prop} {KP : List PanicEntry → H → Prop} (hC : C_pBegins vs h K) : HCX Tryd.prog 40 vs h K KP := by
  obtain ⟨k, rfl, hK⟩ := hC
  refine psBegins_H G_pBg G_pBg_ok _ ?_
  unfold begB at hK
  by_cases hk : k = 10
  · subst hk
    simp only [decide_true, Bool.true_or] at hK
    simp (disch := first | omega | (simp only [e_ssz, e_psz, e_hszs, List.length_cons, List.length_nil]; try omega; done)) only [↓reduceIte, go_sem, psBegins_S, psBegins_E]
    exact hK
  rw [decide_eq_false hk, Bool.false_or] at hK
  simp (disch := first | omega | (simp only [e_ssz, e_psz, e_hszs, List.length_cons, List.length_nil]; try omega; done)) only [↓reduceIte, go_sem, psBegins_S, psBegins_E, eq_false hk]
  refine effS_call ⟨rfl, k, true, rfl, ⟨by simp (disch := first | omega | (simp only [e_ssz, e_psz, e_hszs, List.length_cons, List.length_nil]; try omega; done)) only [go_sem], ?_⟩⟩
  simp (disch := first | omega | (simp only [e_ssz, e_psz, e_hszs, List.length_cons, List.length_nil]; try omega; done)) only [↓reduceIte, go_sem, eq_false hk]
  exact hK
def C_pOpBeh (vs : List Value) (h : H) (K : Value → H → Prop) : Prop := ∃ (u : U) (rb : Nat) (sl : Value) (L : List Tok) (bad : Flt) (i : Nat), vs = [.pointer (some ⟨rb, 0, none⟩)] ∧ RdB u h rb sl L bad i ∧ K (.bool (opBeh (L.drop (i + 1)))) h
theorem psOpBeh_ok {vs : List Value} {h : H} {K : Value → H → Prop} {KP : List PanicEntry → H → Prop} (hC : C_pOpBeh vs h K) : HCX Tryd.prog 46 vs h K KP := by
  obtain ⟨u, rb, sl, L, bad, i, rfl, ⟨hB, hi, hL, hLl⟩, hK⟩ := hC
  obtain ⟨a, c, rfl, q1, q2⟩ := hL.sl
  refine psOpBeh_H (fun _ _ _ _ _ => False) (fun _ _ _ _ _ h => h.elim) _ ?_
  have hB1 := hB.1
  cases hd : L.drop (i + 1) with
  | nil =>
    have hge := drop_nil hd
    rw [hd] at hK
    have hK' : K (.bool false) h := hK
    simp (disch := first | omega | (simp only [e_ssz, e_psz, e_hszs, List.length_cons, List.length_nil]; try omega; done)) only [↓reduceIte, go_sem, psOpBeh_S, psOpBeh_E, hB.at, hB.2.1, eq_false (show ¬ ((i : Int) + 1 < (L.length : Nat)) by omega)]
    exact hK'
  | cons t r =>
    obtain ⟨hlt, hget, hd'⟩ := drop_cons hd
    rw [hd] at hK
    have hK' : K (.bool (decide (t.1 = 11))) h := hK
    obtain ⟨pb, po, rfl, hpb, hpu, hpz, hpr⟩ := hL.row (i + 1) t hget
    rw [rep_tok] at hpr
    simp only [tokE, sz_tok, hvs_6, List.cons.injEq, and_true] at hpr hpu hpz
    obtain ⟨p0, p1, p2, p3, p4, p5⟩ := hpr
    have hn : ((i : Int) + 1).toNat = i + 1 := by omega
    have hz0 : po + (i + 1) * 6 < hsz h pb := by omega
    by_cases h11 : t.1 = 11
    · rw [decide_eq_true h11] at hK'
      simp (disch := first | omega | (simp only [e_ssz, e_psz, e_hszs, List.length_cons, List.length_nil]; try omega; done)) only [↓reduceIte, go_sem, psOpBeh_S, psOpBeh_E, hB.at, hB.2.1, eq_true (show ((i : Int) + 1 < (L.length : Nat)) by omega), eq_true (show (0 : Int) ≤ (i : Int) + 1 by omega), hn, hz0, p0, h11]
      exact hK'
    · rw [decide_eq_false h11] at hK'
      simp (disch := first | omega | (simp only [e_ssz, e_psz, e_hszs, List.length_cons, List.length_nil]; try omega; done)) only [↓reduceIte, go_sem, psOpBeh_S, psOpBeh_E, hB.at, hB.2.1, eq_true (show ((i : Int) + 1 < (L.length : Nat)) by omega), eq_true (show (0 : Int) ≤ (i : Int) + 1 by omega), hn, hz0, p0, eq_false h11]
      exact hK'
def C_pLit (vs : List Value) (h : H) (K : Value → H → Prop) (KP : List PanicEntry → H → Prop) : Prop := ∃ (u : U) (rb : Nat) (sl : Value) (L : List Tok) (bad : Flt) (i : Nat), vs = [.pointer (some ⟨rb, 0, none⟩)] ∧ RdB u h rb sl L bad i ∧
  (∀ e, litD bad (L.drop i) = .error e → ∀ u' h', Step (fun b => b = rb) u h u' h' → KP (gu e) h') ∧
  (∀ x q, litD bad (L.drop i) = .ok (x, q) → ∀ u' h' w i', Step (fun b => b = rb) u h u' h' → RdB u' h' rb sl L bad i' → L.drop i' = q → Own h.size u' h' w x.2.1.2.1 → K (.agg (litE x w).toArray) h')
def G_pLt : Ctr := fun f vs h K KP => (f = 27 ∧ C_pPeek vs h K KP) ∨ (f = 34 ∧ C_pAtom vs h K KP) ∨ (f = 46 ∧ C_pOpBeh vs h K) ∨ (f = 43 ∧ C_pTerm vs h K KP) ∨ (f = 32 ∧ C_pTake vs h K KP)
theorem G_pLt_ok : GOk Tryd.prog G_pLt := by
  rintro f vs h K KP (⟨rfl, hC⟩ | ⟨rfl, hC⟩ | ⟨rfl, hC⟩ | ⟨rfl, hC⟩ | ⟨rfl, hC⟩)
  · exact psPeek_ok hC
  · exact psAtom_ok hC
  · exact psOpBeh_ok hC
  · exact psTerm_ok hC
  · exact psTake_ok hC
def litT : S := sS (sS (sS (sS psLit_S)))
theorem lit_cut : psLit_S = .seq (sF psLit_S) (.seq (sF (sS psLit_S)) (.seq (sF (sS (sS psLit_S))) (.seq (sF (sS (sS (sS psLit_S)))) litT))) := rfl
theorem psLit_ok {vs : List Value} {h : H} {K : Value → H → Prop} {KP : List PanicEntry → H → Prop} (hC : C_pLit vs h K KP) : HCX Tryd.prog 41 vs h K KP := by
  obtain ⟨u, rb, sl, L, bad, i, rfl, hR, hKE, hKO⟩ := hC
  refine psLit_H G_pLt G_pLt_ok _ ?_
  have s1 := Step.push0 S0 u h #[.int .i64 0, str [], .slice none 0 0, .int .i64 0, .int .i64 0, .int .i64 0, .int .i64 0, str [], .int .i64 0, .int .i64 0, .int .i64 0, str [], .int .i64 0, .int .i64 0] 74
  have B1 := Blk.new (u := u) (h := h) [.int .i64 0, str [], .slice none 0 0, .int .i64 0, .int .i64 0, .int .i64 0, .int .i64 0, str [], .int .i64 0, .int .i64 0, .int .i64 0, str [], .int .i64 0, .int .i64 0] 74
  obtain ⟨h1, hh1⟩ : ∃ h1, h1 = h.push (.cells #[.int .i64 0, str [], .slice none 0 0, .int .i64 0, .int .i64 0, .int .i64 0, .int .i64 0, str [], .int .i64 0, .int .i64 0, .int .i64 0, str [], .int .i64 0, .int .i64 0] 74) := ⟨_, rfl⟩
  obtain ⟨u1, hu1⟩ : ∃ u1, u1 = ub u h.size 0 := ⟨_, rfl⟩
  have B1' : Blk u1 h1 h.size [.int .i64 0, str [], .slice none 0 0, .int .i64 0, .int .i64 0, .int .i64 0, .int .i64 0, str [], .int .i64 0, .int .i64 0, .int .i64 0, str [], .int .i64 0, .int .i64 0] := by rw [hu1, hh1]; exact B1
  rw [← hh1, ← hu1] at s1
  clear B1
  have hR1 := hR.step0 s1
  have hrb : rb < h.size := hR.1.1
  have hLl := hR.2.2.2
  have hne1 : h.size ≠ rb := by omega
  rw [lit_cut]
  simp (disch := first | omega | (simp only [e_ssz, e_psz, e_hszs, List.length_cons, List.length_nil]; try omega; done)) only [↓reduceIte, go_sem, sF, sS, psLit_S, psLit_E, ← hh1]
  refine effS_call (.inl ⟨rfl, u1, rb, sl, L, bad, i, rfl, hR1, fun u2 h2 s2 => ⟨fun hd => ?_, fun t r hd => ⟨by simp (disch := first | omega | (simp only [e_ssz, e_psz, e_hszs, List.length_cons, List.length_nil]; try omega; done)) only [go_sem], ?_⟩⟩⟩)
  · exact hKE bad (by rw [hd]; rfl) _ _ ((s1.trans0 s2).mono (fun _ _ q => q.elim))
  obtain ⟨hlt, hget, hd'⟩ := drop_cons hd
  rw [hd] at hKE hKO
  obtain ⟨h3, h4, u4, hh3, hh4, B3, B4, s4, hz4⟩ := boxed u2 h2 [.int .i64 0, str [], .int .i64 0, .int .i64 0, .int .i64 0, .int .i64 0] (tokE t) 80 rfl
  have hb1 : h.size < h2.size := Nat.lt_of_lt_of_le B1'.1 s2.ge.sz
  have st4 : Step (fun b => b = rb) u h u4 h4 := ((s1.trans0 s2).trans0 s4).mono (fun _ _ q => q.elim)
  have B14 := (B1'.step0 s2).step0 s4
  have hR4 := (hR1.step0 s2).step0 s4
  simp only [tokE] at hh4 B4 ⊢
  have B31 := B3.1
  have B41 := B4.1
  have hne2 : h2.size ≠ rb := by omega
  have hRB := hR4.1
  have hRb := hRB.1
  clear hh1 s1 B1' hR1
  by_cases h10 : t.1 = 10
  · obtain ⟨h5, hh5, s5, hR5⟩ := hR4.adv hlt
    have B15 := B14.step s5 hne1
    have B45 := B4.step s5 hne2
    have hz5 := s5.ge.sz
    have st5 : Step (fun b => b = rb) u h u4 h5 := st4.trans s5 (fun b _ q => q)
    simp (disch := first | omega | (simp only [e_ssz, e_psz, e_hszs, List.length_cons, List.length_nil]; try omega; done)) only [↓reduceIte, go_sem, ← hh3, ← hh4, B3.2.1, B3.2.2.1, B4.at, B4.2.1, eq_true h10, hRB.at, hRB.2.1, hRB.2.2.1, ← hh5, B45.at, B45.2.1]
    refine effS_call (.inr (.inl ⟨rfl, u4, rb, sl, L, bad, i + 1, true, rfl, hR5, fun e he u6 h6 s6 => ?_, fun a q ha u6 h6 w i6 s6 hR6 hd6 ow => ?_⟩))
    · rw [hd'] at he
      exact hKE e (litD_notE h10 he) _ _ (st5.trans s6 (fun b _ q => q))
    rw [hd'] at ha
    have B16 := B15.step s6 hne1
    have B46 := B45.step s6 hne2
    have B161 := B16.1
    have B461 := B46.1
    refine ⟨by simp (disch := first | omega | (simp only [e_ssz, e_psz, e_hszs, List.length_cons, List.length_nil]; try omega; done)) only [↓reduceIte, go_sem, B45.at, B46.at, B46.2.1], ?_⟩
    obtain ⟨wa, wc, rfl, m1, m2⟩ := ow.sl
    have st6 : Step (fun b => b = rb) u h u6 h6 := st5.trans s6 (fun b _ q => q)
    have w1 := B16.sets (l := litE (2, a, 0, noTerm, noTerm, tO t) (.slice wa a.2.1.length wc)) rfl
    have s7 := st6.setsR (b := h.size) (o := 0) (l := litE (2, a, 0, noTerm, noTerm, tO t) (.slice wa a.2.1.length wc)) (.inl (Nat.le_refl _)) (by rw [B16.2.2.2.1]; exact Nat.zero_le _) (by rw [B16.2.1]; exact Nat.le_refl _)
    have s67 := Step.sets (S := fun b => b = h.size) u6 h6 (b := h.size) (o := 0) (litE (2, a, 0, noTerm, noTerm, tO t) (.slice wa a.2.1.length wc)) rfl (by rw [B16.2.2.2.1]; exact Nat.zero_le _) (by rw [B16.2.1]; exact Nat.le_refl _)
    have hK' := hKO _ _ (litD_notO h10 ha) _ _ _ _ s7 (hR6.step s67 (fun q => hne1 q.symm)) hd6 ((ow.step s67 (fun b q e => by have := ow.ge q; have e : b = h.size := e; omega)).mono (by omega))
    simp only [litE, noTerm, tO] at hK' w1
    simp (disch := first | omega | (simp only [e_ssz, e_psz, e_hszs, List.length_cons, List.length_nil]; try omega; done)) only [↓reduceIte, go_sem, B16.2.1, B16.2.2.1, w1.at, w1.2.1]
    exact hK'
  have tl : ¬ (tK t = 1 ∧ opBeh r = false) → ∀ σ : Env, σ 0 = .pointer (some ⟨rb, 0, none⟩) → σ 2 = .pointer (some ⟨h.size, 0, none⟩) → σ 3 = .pointer (some ⟨h2.size, 0, none⟩) → wpS G_pLt litT (retQ psLit_E (callK K KP)) σ h4 := by
    intro hnp σ e0 e2 e3
    rw [litD_test h10 hnp] at hKE hKO
    obtain ⟨M, hM⟩ : ∃ M : Env → H → Prop, M = fun σ' h' => ∃ (u' : U) (b4 : Nat), σ' 0 = .pointer (some ⟨rb, 0, none⟩) ∧ σ' 2 = .pointer (some ⟨h.size, 0, none⟩) ∧ σ' 4 = .pointer (some ⟨b4, 0, none⟩) ∧ isT (tK t) true = true ∧ Step (fun b => b = rb) u h u' h' ∧ RdB u' h' rb sl L bad (i + 1) ∧ Blk u' h' h.size [.int .i64 0, str [], .slice none 0 0, .int .i64 0, .int .i64 0, .int .i64 0, .int .i64 0, str [], .int .i64 0, .int .i64 0, .int .i64 0, str [], .int .i64 0, .int .i64 0] ∧ Blk u' h' b4 (litE (3, noAtom, 0, termD t, noTerm, tO t) (.slice none 0 0)) ∧ h.size < b4 ∧ b4 ≠ rb := ⟨_, rfl⟩
    have s5 := Step.push0 S0 u4 h4 #[.int .i64 0, str [], .slice none 0 0, .int .i64 0, .int .i64 0, .int .i64 0, .int .i64 0, str [], .int .i64 0, .int .i64 0, .int .i64 0, str [], .int .i64 0, .int .i64 0] 74
    have B55 := Blk.new (u := u4) (h := h4) [.int .i64 0, str [], .slice none 0 0, .int .i64 0, .int .i64 0, .int .i64 0, .int .i64 0, str [], .int .i64 0, .int .i64 0, .int .i64 0, str [], .int .i64 0, .int .i64 0] 74
    obtain ⟨h5, hh5⟩ : ∃ h5, h5 = h4.push (.cells #[.int .i64 0, str [], .slice none 0 0, .int .i64 0, .int .i64 0, .int .i64 0, .int .i64 0, str [], .int .i64 0, .int .i64 0, .int .i64 0, str [], .int .i64 0, .int .i64 0] 74) := ⟨_, rfl⟩
    obtain ⟨u5, hu5⟩ : ∃ u5, u5 = ub u4 h4.size 0 := ⟨_, rfl⟩
    have B55' : Blk u5 h5 h4.size [.int .i64 0, str [], .slice none 0 0, .int .i64 0, .int .i64 0, .int .i64 0, .int .i64 0, str [], .int .i64 0, .int .i64 0, .int .i64 0, str [], .int .i64 0, .int .i64 0] := by rw [hu5, hh5]; exact B55
    rw [← hh5, ← hu5] at s5
    clear B55
    have B45 := B4.step0 s5
    have B451 := B45.1
    have hR5 := hR4.step0 s5
    have B15 := B14.step0 s5
    have st5 := st4.trans0 s5
    have hne4 : h4.size ≠ rb := by omega
    simp (disch := first | omega | (simp only [e_ssz, e_psz, e_hszs, List.length_cons, List.length_nil]; try omega; done)) only [go_sem, litT, sS, psLit_S, psLit_E]
    refine w_join M ?_ ?_
    · simp (disch := first | omega | (simp only [e_ssz, e_psz, e_hszs, List.length_cons, List.length_nil]; try omega; done)) only [↓reduceIte, go_sem, w_both, e0, e3, B4.at, B4.2.1, ← hh5, B45.at, B45.2.1]
      refine ⟨?_, ?_⟩
      · clear hh5 B15 B45 hR5 s5 st5 B451 B55'
        refine effS_call (.inr (.inr (.inr (.inl ⟨rfl, u4, rb, sl, L, bad, i, true, rfl, hR4, fun u5 h5 s5 hd5 => (hd_no hd hd5).elim, fun u5 h5 t' r' s5 hd5 hT => ?_, fun u5 h5 t' r' s5 hd5 hT hR5 => ?_⟩))))
        · obtain ⟨rfl, rfl⟩ := hd_eq hd hd5
          exact hKE _ (testD_1 hT) _ _ (st4.trans0 s5)
        obtain ⟨rfl, rfl⟩ := hd_eq hd hd5
        have B15 := B14.step s5 hne1
        have B45 := B4.step s5 hne2
        have st5 := st4.trans s5 (fun b _ q => q)
        have B451 := B45.1
        refine ⟨by simp (disch := first | omega | (simp only [e_ssz, e_psz, e_hszs, List.length_cons, List.length_nil]; try omega; done)) only [↓reduceIte, go_sem, e3, B4.at, B45.at, B45.2.1], ?_⟩
        obtain ⟨h6, h7, u7, hh6, hh7, B66, B67, s7, hz7⟩ := boxed u5 h5 [.int .i64 0, str [], .slice none 0 0, .int .i64 0, .int .i64 0, .int .i64 0, .int .i64 0, str [], .int .i64 0, .int .i64 0, .int .i64 0, str [], .int .i64 0, .int .i64 0] (litE (3, noAtom, 0, termD t, noTerm, tO t) (.slice none 0 0)) 74 rfl
        have B46 : Blk (ub u5 h5.size 0) h6 h2.size (tokE t) := by rw [hh6]; exact B45.step0 (Step.push0 S0 u5 h5 _ _)
        have B661 := B66.1
        have B671 := B67.1
        simp only [tokE] at B46
        simp only [litE, noTerm, noAtom, tO] at hh7
        simp only [termE]
        simp (disch := first | omega | (simp only [e_ssz, e_psz, e_hszs, List.length_cons, List.length_nil]; try omega; done)) only [↓reduceIte, go_sem, e3, B45.at, ← hh6, B46.at, B46.2.1, B66.2.1, B66.2.2.1, ← hh7]
        rw [hM]
        refine ⟨u7, h5.size, ?_, ?_, ?_, hT, st5.trans0 s7, hR5.step0 s7, B15.step0 s7, B67, by omega, by have := hR5.1.1; omega⟩ <;> simp [upd, e0, e2]
      · refine effS_call (.inr (.inr (.inr (.inl ⟨rfl, u5, rb, sl, L, bad, i, true, rfl, hR5, fun u6 h6 s6 hd6 => (hd_no hd hd6).elim, fun u6 h6 t' r' s6 hd6 hT => ?_, fun u6 h6 t' r' s6 hd6 hT hR6 => ?_⟩))))
        · obtain ⟨rfl, rfl⟩ := hd_eq hd hd6
          exact hKE _ (testD_1 hT) _ _ (st5.trans0 s6)
        obtain ⟨rfl, rfl⟩ := hd_eq hd hd6
        have B16 := B15.step s6 hne1
        have B46 := B45.step s6 hne2
        have B56 := B55'.step s6 hne4
        have st6 := st5.trans s6 (fun b _ q => q)
        have B461 := B46.1
        have B561 := B56.1
        refine ⟨by simp (disch := first | omega | (simp only [e_ssz, e_psz, e_hszs, List.length_cons, List.length_nil]; try omega; done)) only [↓reduceIte, go_sem, e3, B45.at, B46.at, B46.2.1], ?_⟩
        have w := B56.sets (l := litE (3, noAtom, 0, termD t, noTerm, tO t) (.slice none 0 0)) rfl
        have s67 := Step.sets (S := fun b => b = h4.size) u6 h6 (b := h4.size) (o := 0) (litE (3, noAtom, 0, termD t, noTerm, tO t) (.slice none 0 0)) rfl (by rw [B56.2.2.2.1]; exact Nat.zero_le _) (by rw [B56.2.1]; exact Nat.le_refl _)
        obtain ⟨h7, hh7⟩ : ∃ h7, h7 = hsets h6 h4.size 0 (litE (3, noAtom, 0, termD t, noTerm, tO t) (.slice none 0 0)) := ⟨_, rfl⟩
        rw [← hh7] at w s67
        simp only [litE, noTerm, noAtom, tO] at hh7
        simp only [termE]
        simp (disch := first | omega | (simp only [e_ssz, e_psz, e_hszs, List.length_cons, List.length_nil]; try omega; done)) only [↓reduceIte, go_sem, B56.2.1, B56.2.2.1, ← hh7]
        rw [hM]
        refine ⟨u6, h4.size, ?_, ?_, ?_, hT, st6.trans s67 (fun b hb q => by omega), hR6.step s67 (fun q => hne4 q.symm), B16.step s67 (by omega), w, by omega, hne4⟩ <;> simp [upd, e0, e2]
    · clear hh5 B15 B45 hR5 s5 st5 B451 B55' hu5 hne4
      intro σ' h' hm
      rw [hM] at hm
      obtain ⟨u', b4, e0, e2, e4, hT, st, hRj, B1j, Bj, hb4, hb4r⟩ := hm
      have hz' := st.ge.sz
      simp (disch := first | omega | (simp only [e_ssz, e_psz, e_hszs, List.length_cons, List.length_nil]; try omega; done)) only [go_sem, e0]
      refine effS_call (.inr (.inr (.inr (.inr ⟨rfl, u', rb, sl, L, bad, i + 1, 11, rfl, hRj, fun u5 h5 s5 hd5 => ?_, fun u5 h5 o r5 s5 hd5 hk => ?_, fun u5 h5 o r5 s5 hd5 hk h0 => absurd h0 (by decide), fun u5 h5 o r5 s5 hd5 hk _ hR5 => ⟨by simp (disch := first | omega | (simp only [e_ssz, e_psz, e_hszs, List.length_cons, List.length_nil]; try omega; done)) only [go_sem], ?_⟩⟩))))
      · rw [hd'] at hd5; subst hd5
        exact hKE _ (testD_2 hT) _ _ (st.trans0 s5)
      · rw [hd'] at hd5; subst hd5
        exact hKE _ (testD_3 hT hk) _ _ (st.trans0 s5)
      have hd6 := (drop_cons hd5).2.2
      rw [hd'] at hd5
      subst hd5
      have B15 := B1j.step s5 hne1
      have Bj5 := Bj.step s5 hb4r
      have st5 := st.trans s5 (fun b _ q => q)
      simp only [litE, noTerm, noAtom] at Bj5
      have Bj51 := Bj5.1
      have Bj6 := Bj5.set (i := 4) (v := .int .i64 (tP o)) (by simp)
      have s6 := Step.set (S := fun b => b = b4) u5 h5 (b := b4) (o := 4) (.int .i64 (tP o)) rfl (by rw [Bj5.2.2.2.1]; exact Nat.zero_le _)
      obtain ⟨h6, hh6⟩ : ∃ h6, h6 = hset h5 b4 4 (.int .i64 (tP o)) := ⟨_, rfl⟩
      rw [← hh6] at Bj6 s6
      simp only [List.set_cons_succ, List.set_cons_zero] at Bj6
      have hb4' : h.size ≤ b4 := by omega
      have R6 := hR5.step s6 (fun q => hb4r q.symm)
      have B16 := B15.step s6 (by omega)
      have st6 := st5.trans s6 (fun b hb q => by omega)
      simp only [tP] at hh6
      simp only [tokE]
      simp (disch := first | omega | (simp only [e_ssz, e_psz, e_hszs, List.length_cons, List.length_nil]; try omega; done)) only [↓reduceIte, go_sem, e0, e4, Bj5.2.1, Bj5.2.2.1, ← hh6]
      refine effS_call (.inr (.inr (.inr (.inl ⟨rfl, u5, rb, sl, L, bad, i + 1 + 1, true, rfl, R6, fun u7 h7 s7 hd7 => ?_, fun u7 h7 y q7 s7 hd7 hy => ?_, fun u7 h7 y q7 s7 hd7 hy hR7 => ⟨by simp (disch := first | omega | (simp only [e_ssz, e_psz, e_hszs, List.length_cons, List.length_nil]; try omega; done)) only [go_sem], ?_⟩⟩))))
      · rw [hd6] at hd7; subst hd7
        exact hKE _ (testD_4 hT hk) _ _ (st6.trans0 s7)
      · rw [hd6] at hd7; subst hd7
        exact hKE _ (testD_5 hT hk hy) _ _ (st6.trans0 s7)
      have hd8 := (drop_cons hd7).2.2
      rw [hd6] at hd7
      subst hd7
      have B17 := B16.step s7 hne1
      have Bj7 := Bj6.step s7 hb4r
      have st7 := st6.trans s7 (fun b _ q => q)
      have Bj71 := Bj7.1
      have Bj8 := Bj7.sets4 (o := 9) (x0 := .int .i64 (termD y).1) (x1 := .int .i64 (termD y).2.1) (x2 := str (termD y).2.2.1) (x3 := .int .i64 (termD y).2.2.2) (by simp)
      have s8 := Step.sets (S := fun b => b = b4) u7 h7 (b := b4) (o := 9) [.int .i64 (termD y).1, .int .i64 (termD y).2.1, str (termD y).2.2.1, .int .i64 (termD y).2.2.2] rfl (by rw [Bj7.2.2.2.1]; exact Nat.zero_le _) (by rw [Bj7.2.1]; simp)
      obtain ⟨h8, hh8⟩ : ∃ h8, h8 = hsets h7 b4 9 [.int .i64 (termD y).1, .int .i64 (termD y).2.1, str (termD y).2.2.1, .int .i64 (termD y).2.2.2] := ⟨_, rfl⟩
      rw [← hh8] at Bj8 s8
      simp only [Nat.reduceAdd, List.set_cons_succ, List.set_cons_zero] at Bj8
      have R8 := hR7.step s8 (fun q => hb4r q.symm)
      have B18 := B17.step s8 (by omega)
      have st8 := st7.trans s8 (fun b hb q => by omega)
      have Bj81 := Bj8.1
      have B181 := B18.1
      have w := B18.sets (l := litE (3, noAtom, tP o, termD t, termD y, tO t) (.slice none 0 0)) rfl
      have s9 := st8.setsR (b := h.size) (o := 0) (l := litE (3, noAtom, tP o, termD t, termD y, tO t) (.slice none 0 0)) (.inl (Nat.le_refl _)) (by rw [B18.2.2.2.1]; exact Nat.zero_le _) (by rw [B18.2.1]; exact Nat.le_refl _)
      have s89 := Step.sets (S := fun b => b = h.size) u7 h8 (b := h.size) (o := 0) (litE (3, noAtom, tP o, termD t, termD y, tO t) (.slice none 0 0)) rfl (by rw [B18.2.2.2.1]; exact Nat.zero_le _) (by rw [B18.2.1]; exact Nat.le_refl _)
      have hK' := hKO _ _ (testD_6 hT hk hy) _ _ (.slice none 0 0) _ s9 (R8.step s89 (fun q => hne1 q.symm)) hd8 (.nil _ _ _)
      simp only [litE, noAtom, tO, tP] at hK' w Bj8
      simp only [termE]
      simp (disch := first | omega | (simp only [e_ssz, e_psz, e_hszs, List.length_cons, List.length_nil]; try omega; done)) only [↓reduceIte, go_sem, e2, e4, Bj7.2.1, Bj7.2.2.1, ← hh8, Bj8.at, Bj8.2.1, B18.2.1, B18.2.2.1, w.at, w.2.1]
      exact hK'
  by_cases h1 : t.1 = 1
  case neg =>
    simp (disch := first | omega | (simp only [e_ssz, e_psz, e_hszs, List.length_cons, List.length_nil]; try omega; done)) only [↓reduceIte, go_sem, ← hh3, ← hh4, B3.2.1, B3.2.2.1, B4.at, B4.2.1, eq_false h10, eq_false h1]
    exact tl (fun q => h1 q.1) _ (by simp [upd]) (by simp [upd]) (by simp [upd])
  simp (disch := first | omega | (simp only [e_ssz, e_psz, e_hszs, List.length_cons, List.length_nil]; try omega; done)) only [↓reduceIte, go_sem, ← hh3, ← hh4, B3.2.1, B3.2.2.1, B4.at, B4.2.1, eq_false h10, eq_true h1]
  refine effS_call (.inr (.inr (.inl ⟨rfl, u4, rb, sl, L, bad, i, rfl, hR4, ⟨by simp (disch := first | omega | (simp only [e_ssz, e_psz, e_hszs, List.length_cons, List.length_nil]; try omega; done)) only [go_sem], ?_⟩⟩)))
  rw [hd']
  cases hob : opBeh r with
  | true =>
    simp (disch := first | omega | (simp only [e_ssz, e_psz, e_hszs, List.length_cons, List.length_nil]; try omega; done)) only [↓reduceIte, go_sem]
    exact tl (fun q => by rw [hob] at q; cases q.2) _ (by simp [upd]) (by simp [upd]) (by simp [upd])
  | false =>
    clear tl
    simp (disch := first | omega | (simp only [e_ssz, e_psz, e_hszs, List.length_cons, List.length_nil]; try omega; done)) only [↓reduceIte, go_sem, B4.at, B4.2.1]
    refine effS_call (.inr (.inl ⟨rfl, u4, rb, sl, L, bad, i, true, rfl, hR4, fun e he u6 h6 s6 => ?_, fun a q ha u6 h6 w i6 s6 hR6 hd6 ow => ?_⟩))
    · rw [hd] at he
      exact hKE e (litD_posE h10 ⟨h1, hob⟩ he) _ _ (st4.trans s6 (fun b _ q => q))
    rw [hd] at ha
    have B16 := B14.step s6 hne1
    have B46 := B4.step s6 hne2
    have B161 := B16.1
    have B461 := B46.1
    refine ⟨by simp (disch := first | omega | (simp only [e_ssz, e_psz, e_hszs, List.length_cons, List.length_nil]; try omega; done)) only [↓reduceIte, go_sem, B4.at, B46.at, B46.2.1], ?_⟩
    obtain ⟨wa, wc, rfl, m1, m2⟩ := ow.sl
    have st6 : Step (fun b => b = rb) u h u6 h6 := st4.trans s6 (fun b _ q => q)
    have w1 := B16.sets (l := litE (1, a, 0, noTerm, noTerm, tO t) (.slice wa a.2.1.length wc)) rfl
    have s7 := st6.setsR (b := h.size) (o := 0) (l := litE (1, a, 0, noTerm, noTerm, tO t) (.slice wa a.2.1.length wc)) (.inl (Nat.le_refl _)) (by rw [B16.2.2.2.1]; exact Nat.zero_le _) (by rw [B16.2.1]; exact Nat.le_refl _)
    have s67 := Step.sets (S := fun b => b = h.size) u6 h6 (b := h.size) (o := 0) (litE (1, a, 0, noTerm, noTerm, tO t) (.slice wa a.2.1.length wc)) rfl (by rw [B16.2.2.2.1]; exact Nat.zero_le _) (by rw [B16.2.1]; exact Nat.le_refl _)
    have hK' := hKO _ _ (litD_posO h10 ⟨h1, hob⟩ ha) _ _ _ _ s7 (hR6.step s67 (fun q => hne1 q.symm)) hd6 ((ow.step s67 (fun b q e => by have := ow.ge q; have e : b = h.size := e; omega)).mono (by omega))
    simp only [litE, noTerm, tO] at hK' w1
    simp (disch := first | omega | (simp only [e_ssz, e_psz, e_hszs, List.length_cons, List.length_nil]; try omega; done)) only [↓reduceIte, go_sem, B16.2.1, B16.2.2.1, w1.at, w1.2.1]
    exact hK'
end Go.Proofs.YtlenjlidahnklaaDoor
