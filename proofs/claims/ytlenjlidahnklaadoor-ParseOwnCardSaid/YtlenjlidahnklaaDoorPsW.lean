/- The reader of clauses, walked: peek, stop, refuse, take, isTerm, term. -/
import Derived.Test.YtlenjlidahnklaaDoorPsQ
import Derived.Test.YtlenjlidahnklaaDoorPsS
import Derived.Test.YtlenjlidahnklaaDoorLexS
namespace Edict
def termE (x : TermT) : List Go.Value := [.int .i64 x.1, .int .i64 x.2.1, Go.Ev.str x.2.2.1, .int .i64 x.2.2.2]
def fltV (f : Flt) : Go.Value := .agg #[.int .i64 f.1, .int .i64 0, .int .i64 f.2]
end Edict
namespace Go.Proofs.YtlenjlidahnklaaDoor
open Go Go.Ev Edict
/-- The panic's value by which the reader gives up. -/
def gu (f : Flt) : List PanicEntry := [{ v := .iface 90 (fltV f), recovered := false }]
/-- The reader's block. -/
def RdB (u : U) (h : H) (rb : Nat) (sl : Value) (L : List Tok) (bad : Flt) (i : Nat) : Prop :=
  Blk u h rb [sl, .int .i64 i, .int .i64 bad.1, .int .i64 0, .int .i64 bad.2] ∧ i ≤ L.length ∧ IsSl u h sl L ∧ L.length ≤ 65537
theorem RdB.step {S : Nat → Prop} {u u' : U} {h h' : H} {rb : Nat} {sl : Value} {L : List Tok} {bad : Flt} {i : Nat} (k : RdB u h rb sl L bad i) (s : Step S u h u' h') (hn : ¬ S rb) : RdB u' h' rb sl L bad i :=
  ⟨k.1.step s hn, k.2.1, k.2.2.1.mono s.ge, k.2.2.2⟩
theorem RdB.step0 {u u' : U} {h h' : H} {rb : Nat} {sl : Value} {L : List Tok} {bad : Flt} {i : Nat} (k : RdB u h rb sl L bad i) (s : Step S0 u h u' h') : RdB u' h' rb sl L bad i := k.step s (fun h => h)
theorem drop_cons {L : List Tok} {i : Nat} {t : Tok} {r : List Tok} (h : L.drop i = t :: r) : i < L.length ∧ L[i]? = some t ∧ L.drop (i + 1) = r := by
  have h1 : L[i]? = some t := by
    have := congrArg (·[0]?) h
    simpa using this
  refine ⟨(List.getElem?_eq_some_iff.1 h1).1, h1, ?_⟩
  rw [← List.drop_drop, h]; rfl
theorem drop_nil {L : List Tok} {i : Nat} (h : L.drop i = []) : L.length ≤ i := by simpa using h
theorem hd_no {L : List Tok} {i : Nat} {t : Tok} {r : List Tok} (h : L.drop i = t :: r) (q : L.drop i = []) : False := by rw [h] at q; cases q
theorem hd_eq {L : List Tok} {i : Nat} {t t' : Tok} {r r' : List Tok} (h : L.drop i = t :: r) (q : L.drop i = t' :: r') : t = t' ∧ r = r' := by rw [h] at q; cases q; exact ⟨rfl, rfl⟩
def C_pPeek (vs : List Value) (h : H) (K : Value → H → Prop) (KP : List PanicEntry → H → Prop) : Prop := ∃ (u : U) (rb : Nat) (sl : Value) (L : List Tok) (bad : Flt) (i : Nat), vs = [.pointer (some ⟨rb, 0, none⟩)] ∧ RdB u h rb sl L bad i ∧
  ∀ u' h', Step S0 u h u' h' → (L.drop i = [] → KP (gu bad) h') ∧ ∀ t r, L.drop i = t :: r → K (.agg (tokE t).toArray) h'
theorem psPeek_ok {vs : List Value} {h : H} {K : Value → H → Prop} {KP : List PanicEntry → H → Prop} (hC : C_pPeek vs h K KP) : HCX Tryd.prog 27 vs h K KP := by
  obtain ⟨u, rb, sl, L, bad, i, rfl, ⟨hB, hi, hL, hLl⟩, hK⟩ := hC
  obtain ⟨a, c, rfl, q1, q2⟩ := hL.sl
  refine psPeek_H (fun _ _ _ _ _ => False) (fun _ _ _ _ _ h => h.elim) _ ?_
  have s1 := Step.push0 S0 u h #[.int .i64 0, str [], .int .i64 0, .int .i64 0, .int .i64 0, .int .i64 0] 80
  have B1 := Blk.new (u := u) (h := h) [.int .i64 0, str [], .int .i64 0, .int .i64 0, .int .i64 0, .int .i64 0] 80
  have hB' := hB.step0 s1
  have hL' := hL.mono s1.ge
  obtain ⟨h1, hh1⟩ : ∃ h1, h1 = h.push (.cells #[.int .i64 0, str [], .int .i64 0, .int .i64 0, .int .i64 0, .int .i64 0] 80) := ⟨_, rfl⟩
  obtain ⟨u1, hu1⟩ : ∃ u1, u1 = ub u h.size 0 := ⟨_, rfl⟩
  have B1' : Blk u1 h1 h.size [.int .i64 0, str [], .int .i64 0, .int .i64 0, .int .i64 0, .int .i64 0] := by rw [hu1, hh1]; exact B1
  rw [← hh1, ← hu1] at s1 hB' hL'
  have hB1 := hB'.1
  have hBb := B1'.1
  cases hd : L.drop i with
  | nil =>
    have hge := drop_nil hd
    simp (disch := first | omega | (simp only [e_ssz, e_psz, e_hszs, List.length_cons, List.length_nil]; try omega; done)) only [↓reduceIte, go_sem, psPeek_S, psPeek_E, ← hh1, hB'.at, hB'.2.1, eq_true (show ((L.length : Nat) : Int) ≤ (i : Nat) by omega)]
    exact (hK _ _ s1).1 hd
  | cons t r =>
    obtain ⟨hlt, hget, hd'⟩ := drop_cons hd
    obtain ⟨pb, po, rfl, hpb, hpu, hpz, hpr⟩ := hL'.row i t hget
    rw [rep_tok] at hpr
    simp only [tokE, sz_tok, hvs_6, List.cons.injEq, and_true] at hpr hpu hpz
    obtain ⟨p0, p1, p2, p3, p4, p5⟩ := hpr
    have w1 := B1'.sets (l := [.int .i64 t.1, str t.2.1, .int .i64 t.2.2.1, .int .i64 t.2.2.2.1, .int .i64 t.2.2.2.2.1, .int .i64 t.2.2.2.2.2]) rfl
    have s2 := s1.setsR (b := h.size) (o := 0) (l := [.int .i64 t.1, str t.2.1, .int .i64 t.2.2.1, .int .i64 t.2.2.2.1, .int .i64 t.2.2.2.2.1, .int .i64 t.2.2.2.2.2]) (.inl (Nat.le_refl _)) (by rw [B1'.2.2.2.1]; exact Nat.zero_le _) (by rw [B1'.2.1]; exact Nat.le_refl _)
    have hK' := (hK _ _ s2).2 t r hd
    simp only [tokE] at hK'
    simp (disch := first | omega | (simp only [e_ssz, e_psz, e_hszs, List.length_cons, List.length_nil]; try omega; done)) only [↓reduceIte, go_sem, psPeek_S, psPeek_E, ← hh1, hB'.at, hB'.2.1, eq_false (show ¬ ((L.length : Nat) : Int) ≤ (i : Nat) by omega), eq_true (show (i : Int) < (L.length : Nat) by omega), p0, p1, p2, p3, p4, p5, B1'.2.1, B1'.2.2.1, w1.at, w1.2.1]
    exact hK'
def C_pStop (vs : List Value) (h : H) (KP : List PanicEntry → H → Prop) : Prop := ∃ (u : U) (rb : Nat) (sl : Value) (L : List Tok) (bad : Flt) (i : Nat) (e : Int), vs = [.pointer (some ⟨rb, 0, none⟩), .int .i64 e] ∧ RdB u h rb sl L bad i ∧
  ∀ u' h', Step S0 u h u' h' → (L.drop i = [] → KP (gu bad) h') ∧ ∀ t r, L.drop i = t :: r → KP (gu (stopD e t)) h'
def G_pPk : Ctr := fun f vs h K KP => f = 27 ∧ C_pPeek vs h K KP
theorem G_pPk_ok : GOk Tryd.prog G_pPk := by
  rintro f vs h K KP ⟨rfl, hC⟩; exact psPeek_ok hC
theorem psStop_ok {vs : List Value} {h : H} {K : Value → H → Prop} {KP : List PanicEntry → H → Prop} (hC : C_pStop vs h KP) : HCX Tryd.prog 28 vs h K KP := by
  obtain ⟨u, rb, sl, L, bad, i, e, rfl, hR, hK⟩ := hC
  refine psStop_H G_pPk G_pPk_ok _ _ ?_
  simp (disch := first | omega | (simp only [e_ssz, e_psz, e_hszs, List.length_cons, List.length_nil]; try omega; done)) only [↓reduceIte, go_sem, psStop_S, psStop_E]
  refine effS_call ⟨rfl, u, rb, sl, L, bad, i, rfl, hR, fun u' h' s => ⟨fun hd => (hK _ _ s).1 hd, fun t r hd => ⟨by simp (disch := first | omega | (simp only [e_ssz, e_psz, e_hszs, List.length_cons, List.length_nil]; try omega; done)) only [go_sem], ?_⟩⟩⟩
  have := (hK _ _ s).2 t r hd
  simp only [gu, fltV, stopD, tO] at this
  simp only [tokE]
  simp (disch := first | omega | (simp only [e_ssz, e_psz, e_hszs, List.length_cons, List.length_nil]; try omega; done)) only [↓reduceIte, go_sem]
  exact this
def C_pRefuse (vs : List Value) (h : H) (KP : List PanicEntry → H → Prop) : Prop := ∃ (u : U) (rb : Nat) (sl : Value) (L : List Tok) (bad : Flt) (i : Nat), vs = [.pointer (some ⟨rb, 0, none⟩)] ∧ RdB u h rb sl L bad i ∧
  ∀ u' h', Step S0 u h u' h' → (L.drop i = [] → KP (gu bad) h') ∧ ∀ t r, L.drop i = t :: r → KP (gu (refuseD t)) h'
def G_pRf : Ctr := fun f vs h K KP => (f = 27 ∧ C_pPeek vs h K KP) ∨ (f = 28 ∧ C_pStop vs h KP)
theorem G_pRf_ok : GOk Tryd.prog G_pRf := by
  rintro f vs h K KP (⟨rfl, hC⟩ | ⟨rfl, hC⟩)
  · exact psPeek_ok hC
  · exact psStop_ok hC
theorem psRefuse_ok {vs : List Value} {h : H} {K : Value → H → Prop} {KP : List PanicEntry → H → Prop} (hC : C_pRefuse vs h KP) : HCX Tryd.prog 39 vs h K KP := by
  obtain ⟨u, rb, sl, L, bad, i, rfl, hR, hK⟩ := hC
  refine psRefuse_H G_pRf G_pRf_ok _ ?_
  simp (disch := first | omega | (simp only [e_ssz, e_psz, e_hszs, List.length_cons, List.length_nil]; try omega; done)) only [↓reduceIte, go_sem, psRefuse_S, psRefuse_E]
  refine effS_call (.inl ⟨rfl, u, rb, sl, L, bad, i, rfl, hR, fun u' h' s => ⟨fun hd => (hK _ _ s).1 hd, fun t r hd => ⟨by simp (disch := first | omega | (simp only [e_ssz, e_psz, e_hszs, List.length_cons, List.length_nil]; try omega; done)) only [go_sem], ?_⟩⟩⟩)
  have hR' := hR.step0 s
  simp only [tokE]
  have key : ∀ u2 h2, Step S0 u' h' u2 h2 → KP (gu (refuseD t)) h2 := fun u2 h2 s2 => (hK _ _ (s.trans0 s2)).2 t r hd
  by_cases h0 : t.1 = 0
  · have e : refuseD t = stopD 21 t := by unfold refuseD tK stopD; rw [if_pos h0]
    rw [e] at key
    simp (disch := first | omega | (simp only [e_ssz, e_psz, e_hszs, List.length_cons, List.length_nil]; try omega; done)) only [↓reduceIte, go_sem, h0]
    exact effS_call (.inr ⟨rfl, u', rb, sl, L, bad, i, 21, rfl, hR', fun u2 h2 s2 => ⟨fun q => (hd_no hd q).elim, fun t' r' hd' => (by obtain ⟨rfl, rfl⟩ := hd_eq hd hd'; exact key _ _ s2)⟩⟩)
  · have e : refuseD t = stopD 20 t := by unfold refuseD tK stopD; rw [if_neg h0]
    rw [e] at key
    simp (disch := first | omega | (simp only [e_ssz, e_psz, e_hszs, List.length_cons, List.length_nil]; try omega; done)) only [↓reduceIte, go_sem, h0]
    exact effS_call (.inr ⟨rfl, u', rb, sl, L, bad, i, 20, rfl, hR', fun u2 h2 s2 => ⟨fun q => (hd_no hd q).elim, fun t' r' hd' => (by obtain ⟨rfl, rfl⟩ := hd_eq hd hd'; exact key _ _ s2)⟩⟩)
def C_pIsTerm (vs : List Value) (h : H) (K : Value → H → Prop) : Prop := ∃ (k : Int) (b : Bool), vs = [.int .i64 k, .bool b] ∧ K (.bool (isT k b)) h
theorem psIsTerm_ok {vs : List Value} {h : H} {K : Value → H → Prop} {KP : List PanicEntry → H → Prop} (hC : C_pIsTerm vs h K) : HCX Tryd.prog 42 vs h K KP := by
  obtain ⟨k, b, rfl, hK⟩ := hC
  refine psIsTerm_H (fun _ _ _ _ _ => False) (fun _ _ _ _ _ h => h.elim) _ _ ?_
  unfold isT at hK
  by_cases h1 : k = 1
  · subst h1
    simp at hK
    simp (disch := first | omega | (simp only [e_ssz, e_psz, e_hszs, List.length_cons, List.length_nil]; try omega; done)) only [↓reduceIte, go_sem, psIsTerm_S, psIsTerm_E]
    exact hK
  by_cases h3 : k = 3
  · subst h3
    simp at hK
    simp (disch := first | omega | (simp only [e_ssz, e_psz, e_hszs, List.length_cons, List.length_nil]; try omega; done)) only [↓reduceIte, go_sem, psIsTerm_S, psIsTerm_E]
    exact hK
  by_cases h4 : k = 4
  · subst h4
    simp at hK
    simp (disch := first | omega | (simp only [e_ssz, e_psz, e_hszs, List.length_cons, List.length_nil]; try omega; done)) only [↓reduceIte, go_sem, psIsTerm_S, psIsTerm_E]
    exact hK
  by_cases h2 : k = 2
  · subst h2
    simp at hK
    simp (disch := first | omega | (simp only [e_ssz, e_psz, e_hszs, List.length_cons, List.length_nil]; try omega; done)) only [↓reduceIte, go_sem, psIsTerm_S, psIsTerm_E]
    exact hK
  rw [decide_eq_false h1, decide_eq_false h3, decide_eq_false h4, decide_eq_false h2] at hK
  simp (disch := first | omega | (simp only [e_ssz, e_psz, e_hszs, List.length_cons, List.length_nil]; try omega; done)) only [↓reduceIte, go_sem, psIsTerm_S, psIsTerm_E, h1, h2, h3, h4]
  exact hK
/-- A box that is laid and then written. -/
theorem boxed (u : U) (h : H) (zs cs : List Value) (T : TypeId) (hl : cs.length = zs.length) : ∃ h3 h4 u4, h3 = h.push (.cells zs.toArray T) ∧ h4 = hsets h3 h.size 0 cs ∧ Blk u4 h3 h.size zs ∧ Blk u4 h4 h.size cs ∧ Step S0 u h u4 h4 ∧ h4.size = h.size + 1 := by
  have B := Blk.new (u := u) (h := h) zs T
  have s := (Step.push0 S0 u h zs.toArray T).setsR (b := h.size) (o := 0) (l := cs) (.inl (Nat.le_refl _)) (by rw [B.2.2.2.1]; exact Nat.zero_le _) (by rw [B.2.1, hl]; omega)
  exact ⟨_, _, _, rfl, rfl, B, B.sets hl, s, by rw [hsets_size]; simp⟩
theorem RdB.adv {u : U} {h : H} {rb : Nat} {sl : Value} {L : List Tok} {bad : Flt} {i : Nat} (k : RdB u h rb sl L bad i) (hi : i < L.length) :
    ∃ h', h' = hset h rb 1 (.int .i64 ((i : Int) + 1)) ∧ Step (fun b => b = rb) u h u h' ∧ RdB u h' rb sl L bad (i + 1) := by
  obtain ⟨hB, -, hL, hl⟩ := k
  have s := Step.set (S := fun b => b = rb) u h (b := rb) (o := 1) (.int .i64 ((i : Int) + 1)) rfl (by rw [hB.2.2.2.1]; exact Nat.zero_le _)
  exact ⟨_, rfl, s, hB.set (i := 1) (v := .int .i64 ((i : Int) + 1)) (by simp), hi, hL.mono s.ge, hl⟩
def C_pTake (vs : List Value) (h : H) (K : Value → H → Prop) (KP : List PanicEntry → H → Prop) : Prop := ∃ (u : U) (rb : Nat) (sl : Value) (L : List Tok) (bad : Flt) (i : Nat) (k : Int), vs = [.pointer (some ⟨rb, 0, none⟩), .int .i64 k] ∧ RdB u h rb sl L bad i ∧
  (∀ u' h', Step S0 u h u' h' → L.drop i = [] → KP (gu bad) h') ∧ (∀ u' h' t r, Step S0 u h u' h' → L.drop i = t :: r → tK t ≠ k → KP (gu (refuseD t)) h') ∧
  (∀ u' h' t r, Step S0 u h u' h' → L.drop i = t :: r → tK t = k → k = 0 → K (.agg (tokE t).toArray) h') ∧
  (∀ u' h' t r, Step (fun b => b = rb) u h u' h' → L.drop i = t :: r → tK t = k → k ≠ 0 → RdB u' h' rb sl L bad (i + 1) → K (.agg (tokE t).toArray) h')
def G_pTk : Ctr := fun f vs h K KP => (f = 27 ∧ C_pPeek vs h K KP) ∨ (f = 39 ∧ C_pRefuse vs h KP)
theorem G_pTk_ok : GOk Tryd.prog G_pTk := by
  rintro f vs h K KP (⟨rfl, hC⟩ | ⟨rfl, hC⟩)
  · exact psPeek_ok hC
  · exact psRefuse_ok hC
theorem psTake_ok {vs : List Value} {h : H} {K : Value → H → Prop} {KP : List PanicEntry → H → Prop} (hC : C_pTake vs h K KP) : HCX Tryd.prog 32 vs h K KP := by
  obtain ⟨u, rb, sl, L, bad, i, k, rfl, hR, hK1, hK2, hK3, hK4⟩ := hC
  refine psTake_H G_pTk G_pTk_ok _ _ ?_
  have s1 := Step.push0 S0 u h #[.int .i64 0, str [], .int .i64 0, .int .i64 0, .int .i64 0, .int .i64 0] 80
  have B1 := Blk.new (u := u) (h := h) [.int .i64 0, str [], .int .i64 0, .int .i64 0, .int .i64 0, .int .i64 0] 80
  obtain ⟨h1, hh1⟩ : ∃ h1, h1 = h.push (.cells #[.int .i64 0, str [], .int .i64 0, .int .i64 0, .int .i64 0, .int .i64 0] 80) := ⟨_, rfl⟩
  obtain ⟨u1, hu1⟩ : ∃ u1, u1 = ub u h.size 0 := ⟨_, rfl⟩
  have B1' : Blk u1 h1 h.size [.int .i64 0, str [], .int .i64 0, .int .i64 0, .int .i64 0, .int .i64 0] := by rw [hu1, hh1]; exact B1
  rw [← hh1, ← hu1] at s1
  clear B1
  have hR1 := hR.step0 s1
  have hrb : rb < h.size := hR.1.1
  simp (disch := first | omega | (simp only [e_ssz, e_psz, e_hszs, List.length_cons, List.length_nil]; try omega; done)) only [↓reduceIte, go_sem, psTake_S, psTake_E, ← hh1]
  refine effS_call (.inl ⟨rfl, u1, rb, sl, L, bad, i, rfl, hR1, fun u2 h2 s2 => ⟨fun hd => hK1 _ _ (s1.trans0 s2) hd, fun t r hd => ⟨by simp (disch := first | omega | (simp only [e_ssz, e_psz, e_hszs, List.length_cons, List.length_nil]; try omega; done)) only [go_sem], ?_⟩⟩⟩)
  obtain ⟨hlt, hget, hd'⟩ := drop_cons hd
  obtain ⟨h3, h4, u4, hh3, hh4, B3, B4, s4, hz4⟩ := boxed u2 h2 [.int .i64 0, str [], .int .i64 0, .int .i64 0, .int .i64 0, .int .i64 0] (tokE t) 80 rfl
  have hb1 : h.size < h2.size := Nat.lt_of_lt_of_le B1'.1 s2.ge.sz
  have st4 := (s1.trans0 s2).trans0 s4
  have B14 := (B1'.step0 s2).step0 s4
  have hR4 := (hR1.step0 s2).step0 s4
  simp only [tokE] at hh4 B4 ⊢
  have B31 := B3.1
  have B41 := B4.1
  have hRb := hR4.1.1
  have hLl := hR.2.2.2
  have hkey : decide (t.1 = k) = decide (tK t = k) := rfl
  by_cases hk : tK t = k
  case neg =>
    have hk' : ¬ t.1 = k := hk
    simp (disch := first | omega | (simp only [e_ssz, e_psz, e_hszs, List.length_cons, List.length_nil]; try omega; done)) only [↓reduceIte, go_sem, ← hh3, ← hh4, B3.2.1, B3.2.2.1, B4.at, B4.2.1, hk']
    exact effS_call (.inr ⟨rfl, u4, rb, sl, L, bad, i, rfl, hR4, fun u5 h5 s5 => ⟨fun q => (hd_no hd q).elim, fun t' r' hd' => (by obtain ⟨rfl, rfl⟩ := hd_eq hd hd'; exact hK2 _ _ _ _ (st4.trans0 s5) hd hk)⟩⟩)
  have hk' : t.1 = k := hk
  by_cases hk0 : k = 0
  · have w := B14.sets (l := [.int .i64 t.1, str t.2.1, .int .i64 t.2.2.1, .int .i64 t.2.2.2.1, .int .i64 t.2.2.2.2.1, .int .i64 t.2.2.2.2.2]) rfl
    have s6 := st4.setsR (b := h.size) (o := 0) (l := [.int .i64 t.1, str t.2.1, .int .i64 t.2.2.1, .int .i64 t.2.2.2.1, .int .i64 t.2.2.2.2.1, .int .i64 t.2.2.2.2.2]) (.inl (Nat.le_refl _)) (by rw [B14.2.2.2.1]; exact Nat.zero_le _) (by rw [B14.2.1]; exact Nat.le_refl _)
    have hK' := hK3 _ _ _ _ s6 hd hk hk0
    simp only [tokE] at hK'
    subst hk0
    simp (disch := first | omega | (simp only [e_ssz, e_psz, e_hszs, List.length_cons, List.length_nil]; try omega; done)) only [↓reduceIte, go_sem, ← hh3, ← hh4, B3.2.1, B3.2.2.1, B4.at, B4.2.1, eq_true hk', B14.2.1, B14.2.2.1, w.at, w.2.1]
    exact hK'
  · obtain ⟨h5, hh5, s5, hR5⟩ := hR4.adv hlt
    have hne1 : h.size ≠ rb := by omega
    have hne2 : h2.size ≠ rb := by omega
    have B15 := B14.step s5 hne1
    have B45 := B4.step s5 hne2
    have w := B15.sets (l := [.int .i64 t.1, str t.2.1, .int .i64 t.2.2.1, .int .i64 t.2.2.2.1, .int .i64 t.2.2.2.2.1, .int .i64 t.2.2.2.2.2]) rfl
    have st5 : Step (fun b => b = rb) u h u4 h5 := (st4.mono (fun _ _ q => q.elim)).trans s5 (fun b _ q => q)
    have s6 := st5.setsR (b := h.size) (o := 0) (l := [.int .i64 t.1, str t.2.1, .int .i64 t.2.2.1, .int .i64 t.2.2.2.1, .int .i64 t.2.2.2.2.1, .int .i64 t.2.2.2.2.2]) (.inl (Nat.le_refl _)) (by rw [B15.2.2.2.1]; exact Nat.zero_le _) (by rw [B15.2.1]; exact Nat.le_refl _)
    have s56 := Step.sets (S := fun b => b = h.size) u4 h5 (b := h.size) (o := 0) [.int .i64 t.1, str t.2.1, .int .i64 t.2.2.1, .int .i64 t.2.2.2.1, .int .i64 t.2.2.2.2.1, .int .i64 t.2.2.2.2.2] rfl (by rw [B15.2.2.2.1]; exact Nat.zero_le _) (by rw [B15.2.1]; exact Nat.le_refl _)
    have hK' := hK4 _ _ _ _ s6 hd hk hk0 (hR5.step s56 (fun q => hne1 q.symm))
    simp only [tokE] at hK'
    have hRB := hR4.1
    simp (disch := first | omega | (simp only [e_ssz, e_psz, e_hszs, List.length_cons, List.length_nil]; try omega; done)) only [↓reduceIte, go_sem, ← hh3, ← hh4, B3.2.1, B3.2.2.1, B4.at, B4.2.1, eq_true hk', eq_false hk0, hRB.at, hRB.2.1, hRB.2.2.1, ← hh5, B45.at, B45.2.1, B15.2.1, B15.2.2.1, w.at, w.2.1]
    exact hK'
def C_pTerm (vs : List Value) (h : H) (K : Value → H → Prop) (KP : List PanicEntry → H → Prop) : Prop := ∃ (u : U) (rb : Nat) (sl : Value) (L : List Tok) (bad : Flt) (i : Nat) (v : Bool), vs = [.pointer (some ⟨rb, 0, none⟩), .bool v] ∧ RdB u h rb sl L bad i ∧
  (∀ u' h', Step S0 u h u' h' → L.drop i = [] → KP (gu bad) h') ∧ (∀ u' h' t r, Step S0 u h u' h' → L.drop i = t :: r → isT (tK t) v = false → KP (gu (refuseD t)) h') ∧
  (∀ u' h' t r, Step (fun b => b = rb) u h u' h' → L.drop i = t :: r → isT (tK t) v = true → RdB u' h' rb sl L bad (i + 1) → K (.agg (termE (termD t)).toArray) h')
def G_pTm : Ctr := fun f vs h K KP => (f = 27 ∧ C_pPeek vs h K KP) ∨ (f = 39 ∧ C_pRefuse vs h KP) ∨ (f = 42 ∧ C_pIsTerm vs h K)
theorem G_pTm_ok : GOk Tryd.prog G_pTm := by
  rintro f vs h K KP (⟨rfl, hC⟩ | ⟨rfl, hC⟩ | ⟨rfl, hC⟩)
  · exact psPeek_ok hC
  · exact psRefuse_ok hC
  · exact psIsTerm_ok hC
theorem psTerm_ok {vs : List Value} {h : H} {K : Value → H → Prop} {KP : List PanicEntry → H → Prop} (hC : C_pTerm vs h K KP) : HCX Tryd.prog 43 vs h K KP := by
  obtain ⟨u, rb, sl, L, bad, i, v, rfl, hR, hK1, hK2, hK3⟩ := hC
  refine psTerm_H G_pTm G_pTm_ok _ _ ?_
  have s1 := Step.push0 S0 u h #[.int .i64 0, .int .i64 0, str [], .int .i64 0] 72
  have B1 := Blk.new (u := u) (h := h) [.int .i64 0, .int .i64 0, str [], .int .i64 0] 72
  obtain ⟨h1, hh1⟩ : ∃ h1, h1 = h.push (.cells #[.int .i64 0, .int .i64 0, str [], .int .i64 0] 72) := ⟨_, rfl⟩
  obtain ⟨u1, hu1⟩ : ∃ u1, u1 = ub u h.size 0 := ⟨_, rfl⟩
  have B1' : Blk u1 h1 h.size [.int .i64 0, .int .i64 0, str [], .int .i64 0] := by rw [hu1, hh1]; exact B1
  rw [← hh1, ← hu1] at s1
  clear B1
  have hR1 := hR.step0 s1
  have hrb : rb < h.size := hR.1.1
  simp (disch := first | omega | (simp only [e_ssz, e_psz, e_hszs, List.length_cons, List.length_nil]; try omega; done)) only [↓reduceIte, go_sem, psTerm_S, psTerm_E, ← hh1]
  refine effS_call (.inl ⟨rfl, u1, rb, sl, L, bad, i, rfl, hR1, fun u2 h2 s2 => ⟨fun hd => hK1 _ _ (s1.trans0 s2) hd, fun t r hd => ⟨by simp (disch := first | omega | (simp only [e_ssz, e_psz, e_hszs, List.length_cons, List.length_nil]; try omega; done)) only [go_sem], ?_⟩⟩⟩)
  obtain ⟨hlt, hget, hd'⟩ := drop_cons hd
  obtain ⟨h3, h4, u4, hh3, hh4, B3, B4, s4, hz4⟩ := boxed u2 h2 [.int .i64 0, str [], .int .i64 0, .int .i64 0, .int .i64 0, .int .i64 0] (tokE t) 80 rfl
  have hb1 : h.size < h2.size := Nat.lt_of_lt_of_le B1'.1 s2.ge.sz
  have st4 := (s1.trans0 s2).trans0 s4
  have B14 := (B1'.step0 s2).step0 s4
  have hR4 := (hR1.step0 s2).step0 s4
  simp only [tokE] at hh4 B4 ⊢
  have B31 := B3.1
  have B41 := B4.1
  have hRb := hR4.1.1
  have hLl := hR.2.2.2
  simp (disch := first | omega | (simp only [e_ssz, e_psz, e_hszs, List.length_cons, List.length_nil]; try omega; done)) only [↓reduceIte, go_sem, ← hh3, ← hh4, B3.2.1, B3.2.2.1, B4.at, B4.2.1]
  refine effS_call (.inr (.inr ⟨rfl, t.1, v, rfl, ⟨by simp (disch := first | omega | (simp only [e_ssz, e_psz, e_hszs, List.length_cons, List.length_nil]; try omega; done)) only [go_sem], ?_⟩⟩))
  cases hT : isT t.1 v with
  | false =>
    simp (disch := first | omega | (simp only [e_ssz, e_psz, e_hszs, List.length_cons, List.length_nil]; try omega; done)) only [↓reduceIte, go_sem]
    exact effS_call (.inr (.inl ⟨rfl, u4, rb, sl, L, bad, i, rfl, hR4, fun u5 h5 s5 => ⟨fun q => (hd_no hd q).elim, fun t' r' hd' => (by obtain ⟨rfl, rfl⟩ := hd_eq hd hd'; exact hK2 _ _ _ _ (st4.trans0 s5) hd hT)⟩⟩))
  | true =>
  obtain ⟨h5, hh5, s5, hR5⟩ := hR4.adv hlt
  have hne1 : h.size ≠ rb := by omega
  have hne2 : h2.size ≠ rb := by omega
  have B15 := B14.step s5 hne1
  have B45 := B4.step s5 hne2
  have st5 : Step (fun b => b = rb) u h u4 h5 := (st4.mono (fun _ _ q => q.elim)).trans s5 (fun b _ q => q)
  have hRB := hR4.1
  have hz5 : h2.size < h5.size := B45.1
  have hrb5 := hR5.1.1
  obtain ⟨h6, h7, u7, hh6, hh7, B66, B67, s7, hz7⟩ := boxed u4 h5 [.int .i64 0, .int .i64 0, str [], .int .i64 0] [.int .i64 4, .int .i64 0, str t.2.1, .int .i64 t.2.2.2.2.1] 72 rfl
  have B57 := B45.step0 s7
  have B17 := B15.step0 s7
  have hR7 := hR5.step0 s7
  have st7 := st5.trans0 s7
  have B671 := B67.1
  have B571 := B57.1
  have B661 := B66.1
  simp (disch := first | omega | (simp only [e_ssz, e_psz, e_hszs, List.length_cons, List.length_nil]; try omega; done)) only [↓reduceIte, go_sem, hRB.at, hRB.2.1, hRB.2.2.1, ← hh5, B45.at, B45.2.1, ← hh6, ← hh7, B66.2.1, B66.2.2.1, B57.at, B57.2.1]
  by_cases k3 : t.1 = 3
  · have hTD : termD t = (1, tI t, [], tO t) := by unfold termD tK; simp [k3]
    have s70 := Step.refl (fun b => b = h5.size) u7 h7
    have B6k30 := B67.set (i := 0) (v := .int .i64 1) (by simp)
    have s7k30 := s70.setR (b := h5.size) (o := 0) (v := .int .i64 1) (.inr rfl) (by rw [B67.2.2.2.1]; exact Nat.zero_le _)
    have B6k31 := B6k30.set (i := 1) (v := .int .i64 t.2.2.1) (by simp)
    have s7k31 := s7k30.setR (b := h5.size) (o := 1) (v := .int .i64 t.2.2.1) (.inr rfl) (by rw [B67.2.2.2.1]; exact Nat.zero_le _)
    have B6k32 := B6k31.set (i := 2) (v := str []) (by simp)
    have s7k32 := s7k31.setR (b := h5.size) (o := 2) (v := str []) (.inr rfl) (by rw [B67.2.2.2.1]; exact Nat.zero_le _)
    obtain ⟨h9, hh9⟩ : ∃ h9, h9 = hset (hset (hset h7 h5.size 0 (.int .i64 1)) h5.size 1 (.int .i64 t.2.2.1)) h5.size 2 (str []) := ⟨_, rfl⟩
    rw [← hh9] at B6k32 s7k32
    simp only [List.set_cons_succ, List.set_cons_zero] at B6k32
    have B69 := B6k32
    have B19 := B17.step s7k32 (by omega)
    have hR9 := hR7.step s7k32 (by omega)
    have st9 := st7.trans s7k32 (fun b hb q => by omega)
    have B57k := B57.step s7k30 (by omega)
    have w := B19.sets (l := [.int .i64 1, .int .i64 t.2.2.1, str [], .int .i64 t.2.2.2.2.1]) rfl
    have s10 := st9.setsR (b := h.size) (o := 0) (l := [.int .i64 1, .int .i64 t.2.2.1, str [], .int .i64 t.2.2.2.2.1]) (.inl (Nat.le_refl _)) (by rw [B19.2.2.2.1]; exact Nat.zero_le _) (by rw [B19.2.1]; exact Nat.le_refl _)
    have s91 := Step.sets (S := fun b => b = h.size) u7 h9 (b := h.size) (o := 0) [.int .i64 1, .int .i64 t.2.2.1, str [], .int .i64 t.2.2.2.2.1] rfl (by rw [B19.2.2.2.1]; exact Nat.zero_le _) (by rw [B19.2.1]; exact Nat.le_refl _)
    have hK' := hK3 _ _ _ _ s10 hd hT (hR9.step s91 (fun q => hne1 q.symm))
    simp only [hTD, termE] at hK'
    have B691 := B69.1
    have B191 := B19.1
    simp (disch := first | omega | (simp only [e_ssz, e_psz, e_hszs, List.length_cons, List.length_nil]; try omega; done)) only [go_sem, ← hh9, B57k.at, eq_true k3, B67.at, B67.2.1, B67.2.2.1, B69.at, B17.2.1, B17.2.2.1, w.at, w.2.1]
    exact hK'
  by_cases k1 : t.1 = 1
  · have hTD : termD t = (2, 0, tX t, tO t) := by unfold termD tK; simp [k1]
    have s70 := Step.refl (fun b => b = h5.size) u7 h7
    have B6k10 := B67.set (i := 0) (v := .int .i64 2) (by simp)
    have s7k10 := s70.setR (b := h5.size) (o := 0) (v := .int .i64 2) (.inr rfl) (by rw [B67.2.2.2.1]; exact Nat.zero_le _)
    obtain ⟨h9, hh9⟩ : ∃ h9, h9 = hset h7 h5.size 0 (.int .i64 2) := ⟨_, rfl⟩
    rw [← hh9] at B6k10 s7k10
    simp only [List.set_cons_zero] at B6k10
    have B69 := B6k10
    have B19 := B17.step s7k10 (by omega)
    have hR9 := hR7.step s7k10 (by omega)
    have st9 := st7.trans s7k10 (fun b hb q => by omega)
    have w := B19.sets (l := [.int .i64 2, .int .i64 0, str t.2.1, .int .i64 t.2.2.2.2.1]) rfl
    have s10 := st9.setsR (b := h.size) (o := 0) (l := [.int .i64 2, .int .i64 0, str t.2.1, .int .i64 t.2.2.2.2.1]) (.inl (Nat.le_refl _)) (by rw [B19.2.2.2.1]; exact Nat.zero_le _) (by rw [B19.2.1]; exact Nat.le_refl _)
    have s91 := Step.sets (S := fun b => b = h.size) u7 h9 (b := h.size) (o := 0) [.int .i64 2, .int .i64 0, str t.2.1, .int .i64 t.2.2.2.2.1] rfl (by rw [B19.2.2.2.1]; exact Nat.zero_le _) (by rw [B19.2.1]; exact Nat.le_refl _)
    have hK' := hK3 _ _ _ _ s10 hd hT (hR9.step s91 (fun q => hne1 q.symm))
    simp only [hTD, termE] at hK'
    have B691 := B69.1
    have B191 := B19.1
    simp (disch := first | omega | (simp only [e_ssz, e_psz, e_hszs, List.length_cons, List.length_nil]; try omega; done)) only [go_sem, ← hh9, eq_false k3, eq_true k1, B67.at, B67.2.1, B67.2.2.1, B69.at, B17.2.1, B17.2.2.1, w.at, w.2.1]
    exact hK'
  by_cases k4 : t.1 = 4
  · have hTD : termD t = (3, 0, tX t, tO t) := by unfold termD tK; simp [k4]
    have s70 := Step.refl (fun b => b = h5.size) u7 h7
    have B6k40 := B67.set (i := 0) (v := .int .i64 3) (by simp)
    have s7k40 := s70.setR (b := h5.size) (o := 0) (v := .int .i64 3) (.inr rfl) (by rw [B67.2.2.2.1]; exact Nat.zero_le _)
    obtain ⟨h9, hh9⟩ : ∃ h9, h9 = hset h7 h5.size 0 (.int .i64 3) := ⟨_, rfl⟩
    rw [← hh9] at B6k40 s7k40
    simp only [List.set_cons_zero] at B6k40
    have B69 := B6k40
    have B19 := B17.step s7k40 (by omega)
    have hR9 := hR7.step s7k40 (by omega)
    have st9 := st7.trans s7k40 (fun b hb q => by omega)
    have w := B19.sets (l := [.int .i64 3, .int .i64 0, str t.2.1, .int .i64 t.2.2.2.2.1]) rfl
    have s10 := st9.setsR (b := h.size) (o := 0) (l := [.int .i64 3, .int .i64 0, str t.2.1, .int .i64 t.2.2.2.2.1]) (.inl (Nat.le_refl _)) (by rw [B19.2.2.2.1]; exact Nat.zero_le _) (by rw [B19.2.1]; exact Nat.le_refl _)
    have s91 := Step.sets (S := fun b => b = h.size) u7 h9 (b := h.size) (o := 0) [.int .i64 3, .int .i64 0, str t.2.1, .int .i64 t.2.2.2.2.1] rfl (by rw [B19.2.2.2.1]; exact Nat.zero_le _) (by rw [B19.2.1]; exact Nat.le_refl _)
    have hK' := hK3 _ _ _ _ s10 hd hT (hR9.step s91 (fun q => hne1 q.symm))
    simp only [hTD, termE] at hK'
    have B691 := B69.1
    have B191 := B19.1
    simp (disch := first | omega | (simp only [e_ssz, e_psz, e_hszs, List.length_cons, List.length_nil]; try omega; done)) only [go_sem, ← hh9, eq_false k3, eq_false k1, eq_true k4, B67.at, B67.2.1, B67.2.2.1, B69.at, B17.2.1, B17.2.2.1, w.at, w.2.1]
    exact hK'
  have k2 : ¬ t.1 = 99 := fun q => (by rw [q] at hT; cases hT)
  · have hTD : termD t = (4, 0, tX t, tO t) := by unfold termD tK; simp [k3, k1, k4]
    obtain ⟨h9, hh9⟩ : ∃ h9, h9 = h7 := ⟨_, rfl⟩
    have B69 := B67
    have B19 := B17
    have hR9 := hR7
    have st9 := st7
    rw [← hh9] at B69 B19 hR9 st9
    have w := B19.sets (l := [.int .i64 4, .int .i64 0, str t.2.1, .int .i64 t.2.2.2.2.1]) rfl
    have s10 := st9.setsR (b := h.size) (o := 0) (l := [.int .i64 4, .int .i64 0, str t.2.1, .int .i64 t.2.2.2.2.1]) (.inl (Nat.le_refl _)) (by rw [B19.2.2.2.1]; exact Nat.zero_le _) (by rw [B19.2.1]; exact Nat.le_refl _)
    have s91 := Step.sets (S := fun b => b = h.size) u7 h9 (b := h.size) (o := 0) [.int .i64 4, .int .i64 0, str t.2.1, .int .i64 t.2.2.2.2.1] rfl (by rw [B19.2.2.2.1]; exact Nat.zero_le _) (by rw [B19.2.1]; exact Nat.le_refl _)
    have hK' := hK3 _ _ _ _ s10 hd hT (hR9.step s91 (fun q => hne1 q.symm))
    simp only [hTD, termE] at hK'
    have B691 := B69.1
    have B191 := B19.1
    simp (disch := first | omega | (simp only [e_ssz, e_psz, e_hszs, List.length_cons, List.length_nil]; try omega; done)) only [go_sem, ← hh9, eq_false k3, eq_false k1, eq_false k4, B69.at, B69.2.1, B19.2.1, B19.2.2.1, w.at, w.2.1]
    exact hK'
end Go.Proofs.YtlenjlidahnklaaDoor
