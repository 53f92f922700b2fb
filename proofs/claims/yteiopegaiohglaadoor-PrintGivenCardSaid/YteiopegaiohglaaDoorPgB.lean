/- sym.Text, and how a constant is written. -/
import Derived.Test.YteiopegaiohglaaDoorPgA
import Derived.Test.YteiopegaiohglaaDoorFmtI
namespace Go.Proofs.YteiopegaiohglaaDoor
open Go Go.Ev Edict
def C_text (vs : List Value) (h : H) (K : Value → H → Prop) : Prop := ∃ (u : U) (c : Const), vs = [.agg #[.int .i64 c.1, .int .i64 c.2.1, str c.2.2]] ∧ OkC c ∧ PowG u h ∧ ∀ u' h', Step S0 u h u' h' → K (str (cstS c)) h'
def G_syText : Ctr := fun f vs h K _ => (f = 42 ∧ C_data (vB validB) vs h K) ∨ (f = 110 ∧ C_fint vs h K) ∨ (f = 111 ∧ C_quoted vs h K)
theorem G_syText_ok : GOk Tryd.prog G_syText := by
  rintro f vs h K KP (⟨rfl, hC⟩ | ⟨rfl, hC⟩ | ⟨rfl, hC⟩)
  · exact symValid_ok hC
  · exact formatInt_ok hC
  · exact syQuoted_ok hC
theorem okC_len {c : Const} (h : OkC c) : c.2.2.length ≤ 255 := by
  obtain ⟨h, -⟩ := h
  unfold validB at h
  split at h
  · rw [decide_eq_true_eq] at h; rw [h]; exact Nat.zero_le _
  · split at h
    · rw [Bool.and_eq_true] at h
      have := (word_ln (name_word h.2)).1
      omega
    · split at h
      · rw [Bool.and_eq_true, decide_eq_true_eq, decide_eq_true_eq] at h; exact h.2
      · cases h
theorem okC_wf {c : Const} (h : OkC c) (hk : c.1 = 1 ∨ c.1 = 2 ∨ c.1 = 3) : Rep.wf c := by
  have h1 := okC_len h
  have h2 := h.2
  refine ⟨⟨?_, ?_⟩, h2, ?_⟩
  · rcases hk with q | q | q <;> rw [q] <;> decide
  · rcases hk with q | q | q <;> rw [q] <;> decide
  · show c.2.2.length ≤ 9223372036854775807
    omega
theorem okC_kind {c : Const} (h : OkC c) : c.1 = 1 ∨ c.1 = 2 ∨ c.1 = 3 := by
  obtain ⟨h, -⟩ := h
  unfold validB at h
  split at h
  · exact .inl ‹_›
  · split at h
    · exact .inr (.inl ‹_›)
    · split at h
      · exact .inr (.inr ‹_›)
      · cases h
theorem syText_ok {vs : List Value} {h : H} {K : Value → H → Prop} {KP : List PanicEntry → H → Prop} (hC : C_text vs h K) : HCX Tryd.prog 109 vs h K KP := by
  obtain ⟨u, c, rfl, hc, hP, hK⟩ := hC
  have hkd := okC_kind hc
  have hw := okC_wf hc hkd
  have hlen := okC_len hc
  obtain ⟨hv, hi⟩ := hc
  obtain ⟨kk, ki, ks⟩ := c
  simp only at hkd hlen hi
  unfold cstS at hK
  simp only at hK
  refine syText_H G_syText G_syText_ok _ ?_
  simp (disch := first | omega | (simp only [e_ssz, e_psz, e_hszs, List.length_cons, List.length_nil]; try omega; done)) only [↓reduceIte, go_sem, syText_S, syText_E]
  have sp : Step S0 u h _ _ := Step.push0 S0 u h #[.int .i64 kk, .int .i64 ki, str ks] 46
  have B : Blk (ub u h.size 0) (h.push (.cells #[.int .i64 kk, .int .i64 ki, str ks] 46)) h.size [.int .i64 kk, .int .i64 ki, str ks] := (Blk.mk (by simp only [e_psz]; omega) (by simp (disch := first | omega | (simp only [e_ssz, e_psz, e_hszs, List.length_cons, List.length_nil]; try omega; done)) only [go_sem]) (by simp (disch := first | omega | (simp only [e_ssz, e_psz, e_hszs, List.length_cons, List.length_nil]; try omega; done)) only [go_sem]) (by repeat (first | (refine ub_at ?_; simp only []; done) | apply ub_zero)) (by simp (disch := first | omega | (simp only [e_ssz, e_psz, e_hszs, List.length_cons, List.length_nil]; try omega; done)) only [go_sem]))
  refine effS_call (.inl ⟨rfl, ub u h.size 0, (kk, ki, ks), [.int .i64 kk, .int .i64 ki, str ks], rfl, by rw [rep_const], hw, fun u1 h1 s1 => ⟨by simp (disch := first | omega | (simp only [e_ssz, e_psz, e_hszs, List.length_cons, List.length_nil]; try omega; done)) only [go_sem], ?_⟩⟩)
  have B1 := B.step0 s1
  have st1 := sp.trans0 s1
  simp only [vB, hv]
  by_cases h1 : kk = 1
  · rw [if_pos h1] at hK
    simp (disch := first | omega | (simp only [e_ssz, e_psz, e_hszs, List.length_cons, List.length_nil]; try omega; done)) only [↓reduceIte, go_sem, B1.at, B1.2.1, eq_true h1]
    refine effS_call (.inr (.inl ⟨rfl, u1, ki, rfl, hi, hP.mono st1.ge, fun u2 h2 st2 => ⟨by simp (disch := first | omega | (simp only [e_ssz, e_psz, e_hszs, List.length_cons, List.length_nil]; try omega; done)) only [go_sem], ?_⟩⟩))
    simp (disch := first | omega | (simp only [e_ssz, e_psz, e_hszs, List.length_cons, List.length_nil]; try omega; done)) only [↓reduceIte, go_sem]
    exact hK _ _ (st1.trans0 st2)
  · rw [if_neg h1] at hK
    by_cases h2 : kk = 2
    · rw [if_pos h2] at hK
      simp (disch := first | omega | (simp only [e_ssz, e_psz, e_hszs, List.length_cons, List.length_nil]; try omega; done)) only [↓reduceIte, go_sem, B1.at, B1.2.1, eq_false h1, eq_true h2]
      exact hK _ _ st1
    · rw [if_neg h2] at hK
      simp (disch := first | omega | (simp only [e_ssz, e_psz, e_hszs, List.length_cons, List.length_nil]; try omega; done)) only [↓reduceIte, go_sem, B1.at, B1.2.1, eq_false h1, eq_false h2]
      refine effS_call (.inr (.inr ⟨rfl, u1, ks, rfl, hlen, fun u2 h2 st2 => ⟨by simp (disch := first | omega | (simp only [e_ssz, e_psz, e_hszs, List.length_cons, List.length_nil]; try omega; done)) only [go_sem], ?_⟩⟩))
      simp (disch := first | omega | (simp only [e_ssz, e_psz, e_hszs, List.length_cons, List.length_nil]; try omega; done)) only [↓reduceIte, go_sem]
      exact hK _ _ (st1.trans0 st2)
/-- The text m is written into the builder. -/
def WrX (m : List UInt8) (h : H) (b : Nat) (K : Value → H → Prop) : Prop := ∃ (k : Nat) (u : U) (l : List UInt8), Bu k u h b l ∧ l.length ≤ 100000000 ∧ PowG u h ∧
  ∀ u' h', Step (BldB h b) u h u' h' → Bu k u' h' b (l ++ m) → (∀ i, BldB h' b i → BldB h b i ∨ h.size ≤ i) → K (.tuple #[]) h'
def C_valueW (vs : List Value) (h : H) (K : Value → H → Prop) : Prop := ∃ (b : Nat) (c : Const), vs = [.agg #[.int .i64 c.1, .int .i64 c.2.1, str c.2.2], .pointer (some ⟨b, 0, none⟩)] ∧ OkC c ∧ WrX (cstS c) h b K
def G_prValueW : Ctr := fun f vs h K _ => (f = 109 ∧ C_text vs h K) ∨ (f = 16 ∧ C_wstr vs h K)
theorem G_prValueW_ok : GOk Tryd.prog G_prValueW := by
  rintro f vs h K KP (⟨rfl, hC⟩ | ⟨rfl, hC⟩)
  · exact syText_ok hC
  · exact sbWriteString_ok hC
/-- New blocks ahead of a write. -/
theorem bld_pre {k : Nat} {u u1 u2 : U} {h h1 h2 : H} {b : Nat} {l : List UInt8} (B : Bu k u h b l) (s1 : Step S0 u h u1 h1) (s2 : Step (BldB h1 b) u1 h1 u2 h2) (hb : ∀ i, BldB h2 b i → BldB h1 b i ∨ h1.size ≤ i) :
    Step (BldB h b) u h u2 h2 ∧ ∀ i, BldB h2 b i → BldB h b i ∨ h.size ≤ i := by
  obtain ⟨-, e⟩ := B.step0 s1
  have eB : ∀ j, BldB h1 b j → BldB h b j := fun j hB => hB.imp id fun hB => by rw [e] at hB; exact hB
  exact ⟨(s1.mono (S' := BldB h b) (fun _ _ h => h.elim)).trans s2 (fun j _ hB => eB j hB), fun i hB => (hb i hB).imp (eB i) (Nat.le_trans s1.ge.sz)⟩
theorem prValueW_ok {vs : List Value} {h : H} {K : Value → H → Prop} {KP : List PanicEntry → H → Prop} (hC : C_valueW vs h K) : HCX Tryd.prog 108 vs h K KP := by
  obtain ⟨b, c, rfl, hc, k, u, l, B, hl, hP, hK⟩ := hC
  obtain ⟨-, -, -, -, -, -, -, -, hcl, -⟩ := cst_ok hc
  refine prValueW_H G_prValueW G_prValueW_ok _ _ ?_
  obtain ⟨kk, ki, ks⟩ := c
  simp (disch := first | omega | (simp only [e_ssz, e_psz, e_hszs, List.length_cons, List.length_nil]; try omega; done)) only [↓reduceIte, go_sem, prValueW_S, prValueW_E]
  have sp : Step S0 u h _ _ := Step.push0 S0 u h #[.int .i64 kk, .int .i64 ki, str ks] 82
  refine effS_call (.inl ⟨rfl, _, (kk, ki, ks), rfl, hc, hP.mono sp.ge, fun u1 h1 s1 => ⟨by simp (disch := first | omega | (simp only [e_ssz, e_psz, e_hszs, List.length_cons, List.length_nil]; try omega; done)) only [go_sem], ?_⟩⟩)
  have st1 := sp.trans0 s1
  obtain ⟨B1, -⟩ := B.step0 st1
  simp (disch := first | omega | (simp only [e_ssz, e_psz, e_hszs, List.length_cons, List.length_nil]; try omega; done)) only [↓reduceIte, go_sem]
  refine effS_call (.inr ⟨rfl, _, cstS (kk, ki, ks), rfl, k, u1, b, l, rfl, B1, by omega, fun u2 h2 s2 B2 hb2 => ⟨by simp (disch := first | omega | (simp only [e_ssz, e_psz, e_hszs, List.length_cons, List.length_nil]; try omega; done)) only [go_sem], ?_⟩⟩)
  obtain ⟨c1, c2⟩ := bld_pre B st1 s2 hb2
  simp (disch := first | omega | (simp only [e_ssz, e_psz, e_hszs, List.length_cons, List.length_nil]; try omega; done)) only [go_sem]
  exact hK u2 h2 c1 B2 c2
end Go.Proofs.YteiopegaiohglaaDoor
