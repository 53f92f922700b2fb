import Derived.Test.YtkobamedfbgjbaaKpA
import Derived.Test.YtkobamedfbgjbaaKbP
section Merged
namespace Edict
theorem name_len {s : List UInt8} (h : nameB s = true) : s.length ≤ 64 := by
  unfold nameB at h
  simp only [Bool.and_eq_true] at h
  have := h.2
  cases s with
  | nil => exact Nat.zero_le _
  | cons b r => simp only [wordB, Bool.and_eq_true, decide_eq_true_eq] at this; simpa using this.1
theorem var_len {s : List UInt8} (h : varB s = true) : s.length ≤ 64 := by
  unfold varB at h
  cases s with
  | nil => exact Nat.zero_le _
  | cons b r => simp only [wordB, Bool.and_eq_true, decide_eq_true_eq] at h; simpa using h.1
end Edict
namespace Go.Proofs.Ytkobamedfbgjbaa
open Go Go.Ev Edict
def C_text (vs : List Value) (h : H) (K : Value → H → Prop) : Prop := ∃ (u : U) (c : Const), vs = [.agg #[.int .i64 c.1, .int .i64 c.2.1, str c.2.2]] ∧ Rep.wf c ∧ PowT u h ∧ ∀ u' h' (l : List UInt8), Step S0 u h u' h' → l.length ≤ 2048 → K (str l) h'
def G_syText : Ctr := fun f vs h K _ => (f = 81 ∧ C_data (vB validB) vs h K) ∨ (f = 111 ∧ C_fmt vs h K) ∨ (f = 112 ∧ C_quoted vs h K)
theorem G_syText_ok : GOk Try.prog G_syText := by
  rintro f vs h K KP (⟨rfl, hC⟩ | ⟨rfl, hC⟩ | ⟨rfl, hC⟩)
  · exact symValid_ok hC
  · exact cvFormatInt_ok hC
  · exact syQuoted_ok hC
theorem syText_ok {vs : List Value} {h : H} {K : Value → H → Prop} {KP : List PanicEntry → H → Prop} (hC : C_text vs h K) : HCX Try.prog 110 vs h K KP := by
  obtain ⟨u, ⟨kk, ki, ks⟩, rfl, hw, hP, hK⟩ := hC
  have hw' := hw
  obtain ⟨hw1, hw2, hw3⟩ := hw'
  refine syText_H G_syText G_syText_ok _ ?_
  simp (disch := first | omega | (simp only [e_ssz, e_psz, e_hszs, List.length_cons, List.length_nil]; try omega; done)) only [↓reduceIte, go_sem, syText_S, syText_E]
  have sp : Step S0 u h _ _ := Step.push0 S0 u h #[.int .i64 kk, .int .i64 ki, str ks] 131
  have B : Blk (ub u h.size 0) (h.push (.cells #[.int .i64 kk, .int .i64 ki, str ks] 131)) h.size [.int .i64 kk, .int .i64 ki, str ks] := (Blk.mk (by simp only [e_psz]; omega) (by simp (disch := first | omega | (simp only [e_ssz, e_psz, e_hszs, List.length_cons, List.length_nil]; try omega; done)) only [go_sem]) (by simp (disch := first | omega | (simp only [e_ssz, e_psz, e_hszs, List.length_cons, List.length_nil]; try omega; done)) only [go_sem]) (by repeat (first | (refine ub_at ?_; simp only []; done) | apply ub_zero)) (by simp (disch := first | omega | (simp only [e_ssz, e_psz, e_hszs, List.length_cons, List.length_nil]; try omega; done)) only [go_sem]))
  refine effS_call (.inl ⟨rfl, ub u h.size 0, (kk, ki, ks), [.int .i64 kk, .int .i64 ki, str ks], rfl, by rw [rep_const], hw, fun u1 h1 s1 => ⟨by simp (disch := first | omega | (simp only [e_ssz, e_psz, e_hszs, List.length_cons, List.length_nil]; try omega; done)) only [go_sem], ?_⟩⟩)
  have B1 := B.step0 s1
  have st1 := sp.trans0 s1
  simp only [vB]
  cases hv : validB (kk, ki, ks) with
  | false =>
    simp (disch := first | omega | (simp only [e_ssz, e_psz, e_hszs, List.length_cons, List.length_nil]; try omega; done)) only [↓reduceIte, go_sem]
    exact hK _ _ [] st1 (Nat.zero_le _)
  | true =>
    unfold validB at hv
    simp only at hv
    by_cases h1 : kk = 1
    · simp (disch := first | omega | (simp only [e_ssz, e_psz, e_hszs, List.length_cons, List.length_nil]; try omega; done)) only [↓reduceIte, go_sem, B1.at, B1.2.1, eq_true h1]
      refine effS_call (.inr (.inl ⟨rfl, u1, ki, rfl, hw2, hP.mono st1.ge, fun u2 h2 s st2 hs => ⟨by simp (disch := first | omega | (simp only [e_ssz, e_psz, e_hszs, List.length_cons, List.length_nil]; try omega; done)) only [go_sem], ?_⟩⟩))
      simp (disch := first | omega | (simp only [e_ssz, e_psz, e_hszs, List.length_cons, List.length_nil]; try omega; done)) only [↓reduceIte, go_sem]
      exact hK _ _ s (st1.trans0 st2) (by omega)
    · rw [if_neg h1] at hv
      by_cases h2 : kk = 2
      · rw [if_pos h2, Bool.and_eq_true] at hv
        have := name_len hv.2
        simp (disch := first | omega | (simp only [e_ssz, e_psz, e_hszs, List.length_cons, List.length_nil]; try omega; done)) only [↓reduceIte, go_sem, B1.at, B1.2.1, eq_false h1, eq_true h2]
        exact hK _ _ ks st1 (by omega)
      · rw [if_neg h2] at hv
        by_cases h3 : kk = 3
        · rw [if_pos h3, Bool.and_eq_true, decide_eq_true_eq, decide_eq_true_eq] at hv
          simp (disch := first | omega | (simp only [e_ssz, e_psz, e_hszs, List.length_cons, List.length_nil]; try omega; done)) only [↓reduceIte, go_sem, B1.at, B1.2.1, eq_false h1, eq_false h2]
          refine effS_call (.inr (.inr ⟨rfl, u1, ks, rfl, hv.2, fun u2 h2 s st2 hs => ⟨by simp (disch := first | omega | (simp only [e_ssz, e_psz, e_hszs, List.length_cons, List.length_nil]; try omega; done)) only [go_sem], ?_⟩⟩))
          simp (disch := first | omega | (simp only [e_ssz, e_psz, e_hszs, List.length_cons, List.length_nil]; try omega; done)) only [↓reduceIte, go_sem]
          exact hK _ _ s (st1.trans0 st2) hs
        · rw [if_neg h3] at hv; cases hv
/-- Something is written into the builder, of at most N bytes. -/
def WrK (N : Nat) (h : H) (b : Nat) (K : Value → H → Prop) : Prop := ∃ (k : Nat) (u : U) (l : List UInt8), Bu k u h b l ∧ l.length ≤ 1048576 ∧ PowT u h ∧
  ∀ u' h' (m : List UInt8), Step (BldB h b) u h u' h' → Bu k u' h' b (l ++ m) → m.length ≤ N → (∀ i, BldB h' b i → BldB h b i ∨ h.size ≤ i) → K (.tuple #[]) h'
def C_valueW (vs : List Value) (h : H) (K : Value → H → Prop) : Prop := ∃ (b : Nat) (c : Const), vs = [.agg #[.int .i64 c.1, .int .i64 c.2.1, str c.2.2], .pointer (some ⟨b, 0, none⟩)] ∧ Rep.wf c ∧ WrK 2048 h b K
def G_prValueW : Ctr := fun f vs h K _ => (f = 110 ∧ C_text vs h K) ∨ (f = 101 ∧ C_wstr vs h K)
theorem G_prValueW_ok : GOk Try.prog G_prValueW := by
  rintro f vs h K KP (⟨rfl, hC⟩ | ⟨rfl, hC⟩)
  · exact syText_ok hC
  · exact sbWriteString_ok hC
/-- New blocks ahead of a write. -/
theorem bld_pre {k : Nat} {u u1 u2 : U} {h h1 h2 : H} {b : Nat} {l : List UInt8} (B : Bu k u h b l) (s1 : Step S0 u h u1 h1) (s2 : Step (BldB h1 b) u1 h1 u2 h2) (hb : ∀ i, BldB h2 b i → BldB h1 b i ∨ h1.size ≤ i) :
    Step (BldB h b) u h u2 h2 ∧ ∀ i, BldB h2 b i → BldB h b i ∨ h.size ≤ i := by
  obtain ⟨-, e⟩ := B.step0 s1
  have eB : ∀ j, BldB h1 b j → BldB h b j := fun j hB => hB.imp id fun hB => by rw [e] at hB; exact hB
  exact ⟨(s1.mono (S' := BldB h b) (fun _ _ h => h.elim)).trans s2 (fun j _ hB => eB j hB), fun i hB => (hb i hB).imp (eB i) (Nat.le_trans s1.ge.sz)⟩
theorem prValueW_ok {vs : List Value} {h : H} {K : Value → H → Prop} {KP : List PanicEntry → H → Prop} (hC : C_valueW vs h K) : HCX Try.prog 109 vs h K KP := by
  obtain ⟨b, ⟨kk, ki, ks⟩, rfl, hw, k, u, l, B, hl, hP, hK⟩ := hC
  refine prValueW_H G_prValueW G_prValueW_ok _ _ ?_
  simp (disch := first | omega | (simp only [e_ssz, e_psz, e_hszs, List.length_cons, List.length_nil]; try omega; done)) only [↓reduceIte, go_sem, prValueW_S, prValueW_E]
  have sp : Step S0 u h _ _ := Step.push0 S0 u h #[.int .i64 kk, .int .i64 ki, str ks] 198
  refine effS_call (.inl ⟨rfl, _, (kk, ki, ks), rfl, hw, hP.mono sp.ge, fun u1 h1 s s1 hs => ⟨by simp (disch := first | omega | (simp only [e_ssz, e_psz, e_hszs, List.length_cons, List.length_nil]; try omega; done)) only [go_sem], ?_⟩⟩)
  have st1 := sp.trans0 s1
  obtain ⟨B1, -⟩ := B.step0 st1
  simp (disch := first | omega | (simp only [e_ssz, e_psz, e_hszs, List.length_cons, List.length_nil]; try omega; done)) only [↓reduceIte, go_sem]
  refine effS_call (.inr ⟨rfl, _, s, rfl, k, u1, b, l, rfl, B1, by omega, fun u2 h2 s2 B2 hb2 => ⟨by simp (disch := first | omega | (simp only [e_ssz, e_psz, e_hszs, List.length_cons, List.length_nil]; try omega; done)) only [go_sem], ?_⟩⟩)
  obtain ⟨c1, c2⟩ := bld_pre B st1 s2 hb2
  simp (disch := first | omega | (simp only [e_ssz, e_psz, e_hszs, List.length_cons, List.length_nil]; try omega; done)) only [go_sem]
  exact hK u2 h2 s c1 B2 hs c2
def C_termW (vs : List Value) (h : H) (K : Value → H → Prop) : Prop := ∃ (b : Nat) (t : Term), vs = [.agg (Term.enc t).toArray, .pointer (some ⟨b, 0, none⟩)] ∧ Rep.wf t ∧ termW t = 0 ∧ WrK 2048 h b K
def G_prTermW : Ctr := fun f vs h K _ => (f = 79 ∧ C_constant vs h K) ∨ (f = 109 ∧ C_valueW vs h K) ∨ (f = 101 ∧ C_wstr vs h K)
theorem G_prTermW_ok : GOk Try.prog G_prTermW := by
  rintro f vs h K KP (⟨rfl, hC⟩ | ⟨rfl, hC⟩ | ⟨rfl, hC⟩)
  · exact prConstant_ok hC
  · exact prValueW_ok hC
  · exact sbWriteString_ok hC
theorem prTermW_ok {vs : List Value} {h : H} {K : Value → H → Prop} {KP : List PanicEntry → H → Prop} (hC : C_termW vs h K) : HCX Try.prog 108 vs h K KP := by
  obtain ⟨b, ⟨tk, ti, ts, to⟩, rfl, ⟨w1, w2, w3, w4⟩, ht, k, u, l, B, hl, hP, hK⟩ := hC
  refine prTermW_H G_prTermW G_prTermW_ok _ _ ?_
  have sp : Step S0 u h _ _ := Step.push0 S0 u h #[.int .i64 tk, .int .i64 ti, str ts, .int .i64 to] 188
  obtain ⟨B1, -⟩ := B.step0 sp
  by_cases h4 : tk = 4
  · have hlen : ts.length ≤ 64 := by
      unfold termW at ht
      simp only [if_pos h4] at ht
      by_cases q : ti = 0 ∧ varB ts = true
      · exact var_len q.2
      · rw [if_neg q] at ht; cases ht
    simp (disch := first | omega | (simp only [e_ssz, e_psz, e_hszs, List.length_cons, List.length_nil]; try omega; done)) only [↓reduceIte, go_sem, prTermW_S, prTermW_E, Term.enc, eq_true h4]
    refine effS_call (.inr (.inr ⟨rfl, _, ts, rfl, k, _, b, l, rfl, B1, by omega, fun u2 h2 s2 B2 hb2 => ⟨by simp (disch := first | omega | (simp only [e_ssz, e_psz, e_hszs, List.length_cons, List.length_nil]; try omega; done)) only [go_sem], ?_⟩⟩))
    obtain ⟨c1, c2⟩ := bld_pre B sp s2 hb2
    simp (disch := first | omega | (simp only [e_ssz, e_psz, e_hszs, List.length_cons, List.length_nil]; try omega; done)) only [go_sem]
    exact hK u2 h2 ts c1 B2 (by omega) c2
  · simp (disch := first | omega | (simp only [e_ssz, e_psz, e_hszs, List.length_cons, List.length_nil]; try omega; done)) only [↓reduceIte, go_sem, prTermW_S, prTermW_E, Term.enc, eq_false h4]
    refine effS_call (.inl ⟨rfl, ub u h.size 0, (tk, ti, ts, to), rfl, fun u1 h1 s1 => ⟨by simp (disch := first | omega | (simp only [e_ssz, e_psz, e_hszs, List.length_cons, List.length_nil]; try omega; done)) only [go_sem], ?_⟩⟩)
    have st1 := sp.trans0 s1
    obtain ⟨B2, -⟩ := B.step0 st1
    simp (disch := first | omega | (simp only [e_ssz, e_psz, e_hszs, List.length_cons, List.length_nil]; try omega; done)) only [↓reduceIte, go_sem]
    refine effS_call (.inr (.inl ⟨rfl, b, (tk, ti, ts), rfl, ⟨w1, w2, w3⟩, k, u1, l, B2, hl, hP.mono st1.ge, fun u2 h2 m s2 B3 hm hb2 => ⟨by simp (disch := first | omega | (simp only [e_ssz, e_psz, e_hszs, List.length_cons, List.length_nil]; try omega; done)) only [go_sem], ?_⟩⟩))
    obtain ⟨c1, c2⟩ := bld_pre B st1 s2 hb2
    simp (disch := first | omega | (simp only [e_ssz, e_psz, e_hszs, List.length_cons, List.length_nil]; try omega; done)) only [go_sem]
    exact hK u2 h2 m c1 B3 hm c2
end Go.Proofs.Ytkobamedfbgjbaa
end Merged
section Merged
namespace Edict
abbrev Byts := List UInt8
def sizeF (s : Byts) : Nat := s.length + (s.map UInt8.toNat).sum
def predF (s : Byts) (n : Nat) : Byts := [UInt8.ofNat (97 + sizeF s % 13), UInt8.ofNat (48 + n)]
def plainF (t : Term) : Term :=
  if t.1 % 3 = 0 then (1, t.2.1, [], t.2.2.2)
  else if t.1 % 3 = 1 then (2, 0, [UInt8.ofNat (97 + sizeF t.2.2.1 % 26)], t.2.2.2)
  else (3, 0, t.2.2.1.take 255, t.2.2.2)
def wildN (t : Term) : Byts := if sizeF t.2.2.1 % 13 = 12 then [95] else [UInt8.ofNat (65 + sizeF t.2.2.1 % 13)]
def wildF (t : Term) : Term := (4, 0, wildN t, t.2.2.2)
def freeF (vs : Strs) (t : Term) : Term :=
  if t.1 % 2 = 1 then plainF t else if wildN t ≠ [95] ∧ wildN t ∈ vs then wildF t else if 16 ≤ vs.length then plainF t else wildF t
def freeV (vs : Strs) (t : Term) : Strs :=
  if t.1 % 2 = 1 then vs else if wildN t ≠ [95] ∧ wildN t ∈ vs then vs else if 16 ≤ vs.length then vs else vs ++ [wildN t]
def freeL : Strs → List Term → List Term
  | _, [] => []
  | vs, t :: l => freeF vs t :: freeL (freeV vs t) l
def tiedF (vs : Strs) (t : Term) : Term := if t.1 % 3 ≠ 1 ∧ wildN t ≠ [95] ∧ wildN t ∈ vs then wildF t else plainF t
def atomM (b : Bool) (vs : Strs) (a : Atom) : Atom := (predF a.1 (a.2.1.take 8).length, (if b then freeL vs (a.2.1.take 8) else (a.2.1.take 8).map (tiedF vs)), a.2.2)
def atomV (b : Bool) (vs : Strs) (a : Atom) : Strs := if b then (a.2.1.take 8).foldl freeV vs else vs
def zterm : Term := (0, 0, [], 0)
def zatom : Atom := ([], [], 0)
def zlit : Literal := (0, zatom, 0, zterm, zterm, 0)
def litV (vs : Strs) (l : Literal) : Strs := if l.1 % 4 < 2 then atomV true vs l.2.1 else vs
def litP (vs : Strs) (l : Literal) : Literal := (1, atomM true vs l.2.1, 0, zterm, zterm, l.2.2.2.2.2)
/-- A literal, vs: the variables ahead of it, ws: all of the body's. -/
def litM (ws vs : Strs) (l : Literal) : Literal :=
  if l.1 % 4 < 2 then litP vs l
  else if l.1 % 4 = 2 then (2, atomM false ws l.2.1, 0, zterm, zterm, l.2.2.2.2.2)
  else (3, zatom, 1 + l.2.2.1 % 6, tiedF ws l.2.2.2.1, tiedF ws l.2.2.2.2.1, l.2.2.2.2.2)
/-- Behind the first pass. -/
def lit1 (vs : Strs) (l : Literal) : Literal := if l.1 % 4 < 2 then litP vs l else zlit
def bodyL (f : Strs → Literal → Literal) : Strs → List Literal → List Literal
  | _, [] => []
  | vs, l :: r => f vs l :: bodyL f (litV vs l) r
def bodyV (ls : List Literal) : Strs := (ls.take 16).foldl litV []
def bodyM (ls : List Literal) : List Literal := bodyL (litM (bodyV ls)) [] (ls.take 16)
def clauseM (c : Clause) : Clause := (atomM false (bodyV c.2) c.1, bodyM c.2)
def rightF (p : List Clause) : List Clause := (p.take 200).map clauseM
def givenF (fs : List Atom) : List Atom := (fs.take 4096).map (atomM false [])
/-! ### Terms -/
theorem ofNat_small {n : Nat} (h : n < 256) : (UInt8.ofNat n).toNat = n := by
  rw [UInt8.toNat_ofNat']; omega
theorem small_of {n : Nat} (h1 : 97 ≤ n) (h2 : n ≤ 122) : smallB (UInt8.ofNat n).toNat = true := by
  rw [ofNat_small (by omega)]; simp [smallB]; omega
theorem big_of {n : Nat} (h1 : 65 ≤ n) (h2 : n ≤ 90) : bigB (UInt8.ofNat n).toNat = true := by
  rw [ofNat_small (by omega)]; simp [bigB]; omega
theorem ok_digit {n : Nat} (h : n ≤ 9) : okB (UInt8.ofNat (48 + n)).toNat = true := by
  rw [ofNat_small (by omega)]; simp [okB]; omega
theorem name1 {n : Nat} (h1 : 97 ≤ n) (h2 : n ≤ 122) : nameB [UInt8.ofNat n] = true := by
  have e := small_of h1 h2
  generalize UInt8.ofNat n = b at e ⊢
  simp [nameB, wordB, e]
theorem name_pred (s : Byts) {n : Nat} (h : n ≤ 8) : nameB (predF s n) = true := by
  have e := small_of (n := 97 + sizeF s % 13) (by omega) (by omega)
  have f := ok_digit (n := n) (by omega)
  unfold predF
  generalize UInt8.ofNat (97 + sizeF s % 13) = b at e ⊢
  generalize UInt8.ofNat (48 + n) = c at f ⊢
  simp [nameB, wordB, e, f]
theorem var_wild (t : Term) : varB (wildN t) = true := by
  unfold wildN; split
  · rfl
  · rename_i h
    have e := big_of (n := 65 + sizeF t.2.2.1 % 13) (by omega) (by omega)
    generalize UInt8.ofNat (65 + sizeF t.2.2.1 % 13) = b at e ⊢
    simp [varB, wordB, e]
theorem plain_kind (t : Term) : (plainF t).1 ≠ 4 := by unfold plainF; split; simp; split <;> simp
theorem plain_w (t : Term) : termW (plainF t) = 0 := by
  unfold plainF
  split
  · simp [termW, constW, validB]
  · split
    · have e := name1 (n := 97 + sizeF t.2.2.1 % 26) (by omega) (by omega)
      generalize UInt8.ofNat (97 + sizeF t.2.2.1 % 26) = b at e ⊢
      simp [termW, constW, validB, e]
    · simp [termW, constW, validB, List.length_take]; omega
theorem wild_w (t : Term) : termW (wildF t) = 0 := by simp [termW, wildF, var_wild]
theorem free_w (vs : Strs) (t : Term) : termW (freeF vs t) = 0 := by
  unfold freeF; split; exact plain_w t; split; exact wild_w t; split; exact plain_w t; exact wild_w t
/-- A term that binds nothing: a constant, or a variable of ws. -/
def Tied (ws : Strs) (t : Term) : Prop := termW t = 0 ∧ (t.1 = 4 → t.2.2.1 ≠ [95] ∧ t.2.2.1 ∈ ws)
theorem tied_ok (ws : Strs) (t : Term) : Tied ws (tiedF ws t) := by
  unfold tiedF
  split
  · rename_i h; exact ⟨wild_w t, fun _ => h.2⟩
  · exact ⟨plain_w t, fun h => absurd h (plain_kind t)⟩
theorem tied_nil (t : Term) : (tiedF [] t).1 ≠ 4 := by
  unfold tiedF
  rw [if_neg (by simp)]; exact plain_kind t
/-- The variables of a term, and behind it. -/
theorem free_varT (vs : Strs) (t : Term) : varT vs (freeF vs t) = freeV vs t := by
  unfold freeF freeV
  by_cases h1 : t.1 % 2 = 1
  · rw [if_pos h1, if_pos h1]; unfold varT; rw [if_neg (fun h => plain_kind t h.1)]
  · rw [if_neg h1, if_neg h1]
    by_cases h2 : wildN t ≠ [95] ∧ wildN t ∈ vs
    · rw [if_pos h2, if_pos h2]; unfold varT wildF; rw [if_neg (fun h => h.2.elim h2.1 (fun h => h h2.2))]
    · rw [if_neg h2, if_neg h2]
      by_cases h3 : 16 ≤ vs.length
      · rw [if_pos h3, if_pos h3]; unfold varT; rw [if_neg (fun h => plain_kind t h.1)]
      · rw [if_neg h3, if_neg h3]; unfold varT wildF
        rw [if_pos ⟨rfl, if h4 : wildN t = [95] then .inl h4 else .inr fun h => h2 ⟨h4, h⟩⟩]
theorem free_vars : ∀ (ts : List Term) (vs : Strs), (freeL vs ts).foldl varT vs = ts.foldl freeV vs
  | [], _ => rfl
  | t :: l, vs => by simp only [freeL, List.foldl_cons, free_varT]; exact free_vars l _
theorem freeV_len {vs : Strs} (h : vs.length ≤ 16) (t : Term) : (freeV vs t).length ≤ 16 := by
  unfold freeV; split; exact h; split; exact h; split; exact h; simp; omega
theorem freesV_len : ∀ (ts : List Term) {vs : Strs}, vs.length ≤ 16 → (ts.foldl freeV vs).length ≤ 16
  | [], _, h => h
  | t :: l, _, h => freesV_len l (freeV_len h t)
theorem freeL_len : ∀ (ts : List Term) (vs : Strs), (freeL vs ts).length = ts.length
  | [], _ => rfl
  | t :: l, vs => by simp [freeL, freeL_len l]
theorem freeL_w : ∀ (ts : List Term) (vs : Strs), ∀ t ∈ freeL vs ts, termW t = 0
  | [], _, t, h => by simp [freeL] at h
  | x :: l, vs, t, h => by
    rcases List.mem_cons.1 h with rfl | h
    · exact free_w vs x
    · exact freeL_w l _ t h
/-! ### Atoms and literals -/
theorem firstW_zero {α : Type} {f : α → Int} : ∀ {l : List α}, (∀ x ∈ l, f x = 0) → firstW f l = 0
  | [], _ => rfl
  | x :: l, h => by
    rw [firstW, if_pos (h x (List.mem_cons_self ..))]
    exact firstW_zero fun y hy => h y (List.mem_cons_of_mem _ hy)
theorem atomM_len (b : Bool) (vs : Strs) (a : Atom) : (atomM b vs a).2.1.length = (a.2.1.take 8).length := by
  unfold atomM; cases b <;> simp [freeL_len]
theorem take8 (l : List Term) : (l.take 8).length ≤ 8 := by rw [List.length_take]; exact Nat.min_le_left _ _
theorem atomM_w (b : Bool) (vs : Strs) (a : Atom) : atomW (atomM b vs a) = 0 := by
  have h8 := take8 a.2.1
  have hl := atomM_len b vs a
  unfold atomW
  rw [show (atomM b vs a).1 = predF a.1 (a.2.1.take 8).length from rfl, name_pred _ h8, if_pos rfl, hl, if_neg (by omega)]
  refine firstW_zero fun t ht => ?_
  unfold atomM at ht
  cases b
  · simp only [Bool.false_eq_true, if_false, List.mem_map] at ht
    obtain ⟨x, -, rfl⟩ := ht
    exact (tied_ok vs x).1
  · simp only [if_true] at ht
    exact freeL_w _ _ t ht
/-- A name by which its arity can be read. -/
def AtomN (a : Atom) : Prop := ∃ c : Nat, ((97 ≤ c ∧ c ≤ 109) ∨ c = 122) ∧ a.2.1.length ≤ 8 ∧ a.1 = [UInt8.ofNat c, UInt8.ofNat (48 + a.2.1.length)]
theorem atomM_n (b : Bool) (vs : Strs) (a : Atom) : AtomN (atomM b vs a) := by
  refine ⟨97 + sizeF a.1 % 13, .inl (by omega), ?_, ?_⟩
  · rw [atomM_len]; exact take8 _
  · rw [atomM_len]; rfl
theorem litM_w (ws vs : Strs) (l : Literal) : litW (litM ws vs l) = 0 := by
  unfold litM
  by_cases h1 : l.1 % 4 < 2
  · rw [if_pos h1]; simp [litW, litP, zterm, zeroB, atomM_w]
  · rw [if_neg h1]
    by_cases h2 : l.1 % 4 = 2
    · rw [if_pos h2]; simp [litW, zterm, zeroB, atomM_w]
    · rw [if_neg h2]
      have ha := (tied_ok ws l.2.2.2.1).1
      have hb := (tied_ok ws l.2.2.2.2.1).1
      have h0 : ¬ (1 + l.2.2.1 % 6 < 1 ∨ 6 < 1 + l.2.2.1 % 6) := by omega
      simp [litW, testW, zatom, ha, hb]
      omega
end Edict
end Merged
