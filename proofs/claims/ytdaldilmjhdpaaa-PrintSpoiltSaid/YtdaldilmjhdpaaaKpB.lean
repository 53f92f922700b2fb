/- sym.Text, and how constants and terms are written. -/
import Derived.Test.YtdaldilmjhdpaaaKpA
namespace Edict
theorem name_len {s : List UInt8} (h : nameB s = true) : s.length ≤ 64 := by
  unfold nameB at h
  simp only [Bool.and_eq_true] at h
  have := h.2
  cases s with
  | nil => exact Nat.zero_le _
  | cons b r => simp only [wordB, Bool.and_eq_true, decide_eq_true_eq] at this; simpa using this.1
theorem var_len {s : List UInt8} (h : varB s = true) : s.length ≤ 64 := by
  unfold varB at h
  cases s with
  | nil => exact Nat.zero_le _
  | cons b r => simp only [wordB, Bool.and_eq_true, decide_eq_true_eq] at h; simpa using h.1
end Edict
namespace Go.Proofs.Ytdaldilmjhdpaaa
open Go Go.Ev Edict
def C_text (vs : List Value) (h : H) (K : Value → H → Prop) : Prop := ∃ (u : U) (c : Const), vs = [.agg #[.int .i64 c.1, .int .i64 c.2.1, str c.2.2]] ∧ Rep.wf c ∧ PowT u h ∧ ∀ u' h' (l : List UInt8), Step S0 u h u' h' → l.length ≤ 2048 → K (str l) h'
def G_syText : Ctr := fun f vs h K _ => (f = 48 ∧ C_data (vB validB) vs h K) ∨ (f = 68 ∧ C_fmt vs h K) ∨ (f = 69 ∧ C_quoted vs h K)
theorem G_syText_ok : GOk Try.prog G_syText := by
  rintro f vs h K KP (⟨rfl, hC⟩ | ⟨rfl, hC⟩ | ⟨rfl, hC⟩)
  · exact symValid_ok hC
  · exact cvFormatInt_ok hC
  · exact syQuoted_ok hC
theorem syText_ok {vs : List Value} {h : H} {K : Value → H → Prop} {KP : List PanicEntry → H → Prop} (hC : C_text vs h K) : HCX Try.prog 67 vs h K KP := by
  obtain ⟨u, ⟨kk, ki, ks⟩, rfl, hw, hP, hK⟩ := hC
  have hw' := hw
  obtain ⟨hw1, hw2, hw3⟩ := hw'
  refine syText_H G_syText G_syText_ok _ ?_
  simp (disch := first | omega | (simp only [e_ssz, e_psz, e_hszs, List.length_cons, List.length_nil]; try omega; done)) only [↓reduceIte, go_sem, syText_S, syText_E]
  have sp : Step S0 u h _ _ := Step.push0 S0 u h #[.int .i64 kk, .int .i64 ki, str ks] 63
  have B : Blk (ub u h.size 0) (h.push (.cells #[.int .i64 kk, .int .i64 ki, str ks] 63)) h.size [.int .i64 kk, .int .i64 ki, str ks] := (Blk.mk (by simp only [e_psz]; omega) (by simp (disch := first | omega | (simp only [e_ssz, e_psz, e_hszs, List.length_cons, List.length_nil]; try omega; done)) only [go_sem]) (by simp (disch := first | omega | (simp only [e_ssz, e_psz, e_hszs, List.length_cons, List.length_nil]; try omega; done)) only [go_sem]) (by repeat (first | (refine ub_at ?_; simp only []; done) | apply ub_zero)) (by simp (disch := first | omega | (simp only [e_ssz, e_psz, e_hszs, List.length_cons, List.length_nil]; try omega; done)) only [go_sem]))
  refine effS_call (.inl ⟨rfl, ub u h.size 0, (kk, ki, ks), [.int .i64 kk, .int .i64 ki, str ks], rfl, by rw [rep_const], hw, fun u1 h1 s1 => ⟨by simp (disch := first | omega | (simp only [e_ssz, e_psz, e_hszs, List.length_cons, List.length_nil]; try omega; done)) only [go_sem], ?_⟩⟩)
  have B1 := B.step0 s1
  have st1 := sp.trans0 s1
  simp only [vB]
  cases hv : validB (kk, ki, ks) with
  | false =>
    simp (disch := first | omega | (simp only [e_ssz, e_psz, e_hszs, List.length_cons, List.length_nil]; try omega; done)) only [↓reduceIte, go_sem]
    exact hK _ _ [] st1 (Nat.zero_le _)
  | true =>
    unfold validB at hv
    simp only at hv
    by_cases h1 : kk = 1
    · simp (disch := first | omega | (simp only [e_ssz, e_psz, e_hszs, List.length_cons, List.length_nil]; try omega; done)) only [↓reduceIte, go_sem, B1.at, B1.2.1, eq_true h1]
      refine effS_call (.inr (.inl ⟨rfl, u1, ki, rfl, hw2, hP.mono st1.ge, fun u2 h2 s st2 hs => ⟨by simp (disch := first | omega | (simp only [e_ssz, e_psz, e_hszs, List.length_cons, List.length_nil]; try omega; done)) only [go_sem], ?_⟩⟩))
      simp (disch := first | omega | (simp only [e_ssz, e_psz, e_hszs, List.length_cons, List.length_nil]; try omega; done)) only [↓reduceIte, go_sem]
      exact hK _ _ s (st1.trans0 st2) (by omega)
    · rw [if_neg h1] at hv
      by_cases h2 : kk = 2
      · rw [if_pos h2, Bool.and_eq_true] at hv
        have := name_len hv.2
        simp (disch := first | omega | (simp only [e_ssz, e_psz, e_hszs, List.length_cons, List.length_nil]; try omega; done)) only [↓reduceIte, go_sem, B1.at, B1.2.1, eq_false h1, eq_true h2]
        exact hK _ _ ks st1 (by omega)
      · rw [if_neg h2] at hv
        by_cases h3 : kk = 3
        · rw [if_pos h3, Bool.and_eq_true, decide_eq_true_eq, decide_eq_true_eq] at hv
          simp (disch := first | omega | (simp only [e_ssz, e_psz, e_hszs, List.length_cons, List.length_nil]; try omega; done)) only [↓reduceIte, go_sem, B1.at, B1.2.1, eq_false h1, eq_false h2]
          refine effS_call (.inr (.inr ⟨rfl, u1, ks, rfl, hv.2, fun u2 h2 s st2 hs => ⟨by simp (disch := first | omega | (simp only [e_ssz, e_psz, e_hszs, List.length_cons, List.length_nil]; try omega; done)) only [go_sem], ?_⟩⟩))
          simp (disch := first | omega | (simp only [e_ssz, e_psz, e_hszs, List.length_cons, List.length_nil]; try omega; done)) only [↓reduceIte, go_sem]
          exact hK _ _ s (st1.trans0 st2) hs
        · rw [if_neg h3] at hv; cases hv
/-- Something is written into the builder, of at most N bytes. -/
def WrK (N : Nat) (h : H) (b : Nat) (K : Value → H → Prop) : Prop := ∃ (k : Nat) (u : U) (l : List UInt8), Bu k u h b l ∧ l.length ≤ 1048576 ∧ PowT u h ∧
  ∀ u' h' (m : List UInt8), Step (BldB h b) u h u' h' → Bu k u' h' b (l ++ m) → m.length ≤ N → (∀ i, BldB h' b i → BldB h b i ∨ h.size ≤ i) → K (.tuple #[]) h'
def C_valueW (vs : List Value) (h : H) (K : Value → H → Prop) : Prop := ∃ (b : Nat) (c : Const), vs = [.agg #[.int .i64 c.1, .int .i64 c.2.1, str c.2.2], .pointer (some ⟨b, 0, none⟩)] ∧ Rep.wf c ∧ WrK 2048 h b K
def G_prValueW : Ctr := fun f vs h K _ => (f = 67 ∧ C_text vs h K) ∨ (f = 28 ∧ C_wstr vs h K)
theorem G_prValueW_ok : GOk Try.prog G_prValueW := by
  rintro f vs h K KP (⟨rfl, hC⟩ | ⟨rfl, hC⟩)
  · exact syText_ok hC
  · exact sbWriteString_ok hC
/-- New blocks ahead of a write. -/
theorem bld_pre {k : Nat} {u u1 u2 : U} {h h1 h2 : H} {b : Nat} {l : List UInt8} (B : Bu k u h b l) (s1 : Step S0 u h u1 h1) (s2 : Step (BldB h1 b) u1 h1 u2 h2) (hb : ∀ i, BldB h2 b i → BldB h1 b i ∨ h1.size ≤ i) :
    Step (BldB h b) u h u2 h2 ∧ ∀ i, BldB h2 b i → BldB h b i ∨ h.size ≤ i := by
  obtain ⟨-, e⟩ := B.step0 s1
  have eB : ∀ j, BldB h1 b j → BldB h b j := fun j hB => hB.imp id fun hB => by rw [e] at hB; exact hB
  exact ⟨(s1.mono (S' := BldB h b) (fun _ _ h => h.elim)).trans s2 (fun j _ hB => eB j hB), fun i hB => (hb i hB).imp (eB i) (Nat.le_trans s1.ge.sz)⟩
theorem prValueW_ok {vs : List Value} {h : H} {K : Value → H → Prop} {KP : List PanicEntry → H → Prop} (hC : C_valueW vs h K) : HCX Try.prog 66 vs h K KP := by
  obtain ⟨b, ⟨kk, ki, ks⟩, rfl, hw, k, u, l, B, hl, hP, hK⟩ := hC
  refine prValueW_H G_prValueW G_prValueW_ok _ _ ?_
  simp (disch := first | omega | (simp only [e_ssz, e_psz, e_hszs, List.length_cons, List.length_nil]; try omega; done)) only [↓reduceIte, go_sem, prValueW_S, prValueW_E]
  have sp : Step S0 u h _ _ := Step.push0 S0 u h #[.int .i64 kk, .int .i64 ki, str ks] 110
  refine effS_call (.inl ⟨rfl, _, (kk, ki, ks), rfl, hw, hP.mono sp.ge, fun u1 h1 s s1 hs => ⟨by simp (disch := first | omega | (simp only [e_ssz, e_psz, e_hszs, List.length_cons, List.length_nil]; try omega; done)) only [go_sem], ?_⟩⟩)
  have st1 := sp.trans0 s1
  obtain ⟨B1, -⟩ := B.step0 st1
  simp (disch := first | omega | (simp only [e_ssz, e_psz, e_hszs, List.length_cons, List.length_nil]; try omega; done)) only [↓reduceIte, go_sem]
  refine effS_call (.inr ⟨rfl, _, s, rfl, k, u1, b, l, rfl, B1, by omega, fun u2 h2 s2 B2 hb2 => ⟨by simp (disch := first | omega | (simp only [e_ssz, e_psz, e_hszs, List.length_cons, List.length_nil]; try omega; done)) only [go_sem], ?_⟩⟩)
  obtain ⟨c1, c2⟩ := bld_pre B st1 s2 hb2
  simp (disch := first | omega | (simp only [e_ssz, e_psz, e_hszs, List.length_cons, List.length_nil]; try omega; done)) only [go_sem]
  exact hK u2 h2 s c1 B2 hs c2
def C_termW (vs : List Value) (h : H) (K : Value → H → Prop) : Prop := ∃ (b : Nat) (t : Term), vs = [.agg (Term.enc t).toArray, .pointer (some ⟨b, 0, none⟩)] ∧ Rep.wf t ∧ termW t = 0 ∧ WrK 2048 h b K
def G_prTermW : Ctr := fun f vs h K _ => (f = 46 ∧ C_constant vs h K) ∨ (f = 66 ∧ C_valueW vs h K) ∨ (f = 28 ∧ C_wstr vs h K)
theorem G_prTermW_ok : GOk Try.prog G_prTermW := by
  rintro f vs h K KP (⟨rfl, hC⟩ | ⟨rfl, hC⟩ | ⟨rfl, hC⟩)
  · exact prConstant_ok hC
  · exact prValueW_ok hC
  · exact sbWriteString_ok hC
theorem prTermW_ok {vs : List Value} {h : H} {K : Value → H → Prop} {KP : List PanicEntry → H → Prop} (hC : C_termW vs h K) : HCX Try.prog 65 vs h K KP := by
  obtain ⟨b, ⟨tk, ti, ts, to⟩, rfl, ⟨w1, w2, w3, w4⟩, ht, k, u, l, B, hl, hP, hK⟩ := hC
  refine prTermW_H G_prTermW G_prTermW_ok _ _ ?_
  have sp : Step S0 u h _ _ := Step.push0 S0 u h #[.int .i64 tk, .int .i64 ti, str ts, .int .i64 to] 84
  obtain ⟨B1, -⟩ := B.step0 sp
  by_cases h4 : tk = 4
  · have hlen : ts.length ≤ 64 := by
      unfold termW at ht
      simp only [if_pos h4] at ht
      by_cases q : ti = 0 ∧ varB ts = true
      · exact var_len q.2
      · rw [if_neg q] at ht; cases ht
    simp (disch := first | omega | (simp only [e_ssz, e_psz, e_hszs, List.length_cons, List.length_nil]; try omega; done)) only [↓reduceIte, go_sem, prTermW_S, prTermW_E, Term.enc, eq_true h4]
    refine effS_call (.inr (.inr ⟨rfl, _, ts, rfl, k, _, b, l, rfl, B1, by omega, fun u2 h2 s2 B2 hb2 => ⟨by simp (disch := first | omega | (simp only [e_ssz, e_psz, e_hszs, List.length_cons, List.length_nil]; try omega; done)) only [go_sem], ?_⟩⟩))
    obtain ⟨c1, c2⟩ := bld_pre B sp s2 hb2
    simp (disch := first | omega | (simp only [e_ssz, e_psz, e_hszs, List.length_cons, List.length_nil]; try omega; done)) only [go_sem]
    exact hK u2 h2 ts c1 B2 (by omega) c2
  · simp (disch := first | omega | (simp only [e_ssz, e_psz, e_hszs, List.length_cons, List.length_nil]; try omega; done)) only [↓reduceIte, go_sem, prTermW_S, prTermW_E, Term.enc, eq_false h4]
    refine effS_call (.inl ⟨rfl, ub u h.size 0, (tk, ti, ts, to), rfl, fun u1 h1 s1 => ⟨by simp (disch := first | omega | (simp only [e_ssz, e_psz, e_hszs, List.length_cons, List.length_nil]; try omega; done)) only [go_sem], ?_⟩⟩)
    have st1 := sp.trans0 s1
    obtain ⟨B2, -⟩ := B.step0 st1
    simp (disch := first | omega | (simp only [e_ssz, e_psz, e_hszs, List.length_cons, List.length_nil]; try omega; done)) only [↓reduceIte, go_sem]
    refine effS_call (.inr (.inl ⟨rfl, b, (tk, ti, ts), rfl, ⟨w1, w2, w3⟩, k, u1, l, B2, hl, hP.mono st1.ge, fun u2 h2 m s2 B3 hm hb2 => ⟨by simp (disch := first | omega | (simp only [e_ssz, e_psz, e_hszs, List.length_cons, List.length_nil]; try omega; done)) only [go_sem], ?_⟩⟩))
    obtain ⟨c1, c2⟩ := bld_pre B st1 s2 hb2
    simp (disch := first | omega | (simp only [e_ssz, e_psz, e_hszs, List.length_cons, List.length_nil]; try omega; done)) only [go_sem]
    exact hK u2 h2 m c1 B3 hm c2
end Go.Proofs.Ytdaldilmjhdpaaa
