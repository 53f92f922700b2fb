/- What lex's word, escape, text compute. -/
import Derived.Test.YtlenjlidahnklaaDoorLexT
namespace Go.Ev
open Go
theorem Blk.new {u : U} {h : H} (cs : List Value) (t : TypeId) : Blk (ub u h.size 0) (h.push (.cells cs.toArray t)) h.size cs :=
  ⟨by simp, by rw [e_hszpe rfl], by rw [e_hfrpe rfl], ub_self, fun i v hv => by rw [e_hvpe rfl, List.getD_eq_getElem?_getD, hv]; rfl⟩
theorem Blk.other {u : U} {h : H} {b k : Nat} {cs l : List Value} {o : Nat} (A : Blk u h b cs) (hk : b ≠ k) : Blk u (hsets h k o l) b cs := by
  obtain ⟨h1, h2, h3, h4, h5⟩ := A
  refine ⟨by rw [hsets_size]; exact h1, by rw [hsets_hsz]; exact h2, by rw [hsets_hfr]; exact h3, h4, fun i v hv => ?_⟩
  have := h5 i v hv
  unfold Go.Ev.hv hc at this ⊢
  rw [hsets_get _ _ _ _ _ hk]; exact this
/-- The two blocks of the results are written. -/
theorem res2 {S : Nat → Prop} {u0 u : U} {h0 h : H} {a b : Nat} {ca cb la lb : List Value} (st : Step S u0 h0 u h) (A : Blk u h a ca) (B : Blk u h b cb) (hab : a ≠ b) (ha : h0.size ≤ a) (hb : h0.size ≤ b) (hla : la.length = ca.length) (hlb : lb.length = cb.length) :
    Step S u0 h0 u (hsets (hsets h a 0 la) b 0 lb) ∧ Blk u (hsets (hsets h a 0 la) b 0 lb) a la ∧ Blk u (hsets (hsets h a 0 la) b 0 lb) b lb ∧ ∀ i cs, Blk u h i cs → i ≠ a → i ≠ b → Blk u (hsets (hsets h a 0 la) b 0 lb) i cs := by
  have hA := A.2.2.2.1; have hB := B.2.2.2.1
  have A1 := A.sets hla
  have B1 : Blk u (hsets h a 0 la) b cb := B.other (Ne.symm hab)
  have s1 := Step.setsR (l := la) (o := 0) st (.inl ha) (by rw [hA]; exact Nat.le_refl _) (by rw [A.2.1, hla]; omega)
  have s2 := Step.setsR (l := lb) (o := 0) s1 (.inl hb) (by rw [hB]; exact Nat.le_refl _) (by rw [B1.2.1, hlb]; omega)
  exact ⟨s2, A1.other hab, B1.sets hlb, fun i cs k hia hib => (k.other hia).other hib⟩
end Go.Ev
namespace Go.Proofs.YtlenjlidahnklaaDoor
open Go Go.Ev Edict
theorem sub0 {s : List UInt8} {k e : Nat} (h : k < e) (he : e ≤ s.length) : ((s.take e).drop k).getD 0 0 = s.getD k 0 := by
  simp only [List.getD_eq_getElem?_getD, List.getElem?_drop, Nat.add_zero, List.getElem?_take]
  rw [if_pos h]
theorem subL {s : List UInt8} {k e : Nat} (h : k ≤ e) (he : e ≤ s.length) : ((s.take e).drop k).length = e - k := by simp; omega
abbrev Rdr (u : U) (h : H) (B : Nat) (s : List UInt8) (k : Nat) : Prop := Blk u h B [str s, .int .i64 k]
def C_tok (Gl : U → H → Prop) (F : List UInt8 → Nat → TR) (pre : List UInt8 → Nat → Prop) (vs : List Value) (h : H) (K : Value → H → Prop) : Prop := ∃ (u : U) (B : Nat) (s : List UInt8) (k : Nat), vs = [.pointer (some ⟨B, 0, none⟩)] ∧ Rdr u h B s k ∧ k ≤ s.length ∧ s.length ≤ 65536 ∧ pre s k ∧ Gl u h ∧
  ∀ u' h', Step (fun i => i = B) u h u' h' → (∀ t, F s k = .ok t → Rdr u' h' B s t.2.2.2.2.2.toNat) → K (resV (F s k)) h'
def noG : U → H → Prop := fun _ _ => True
def G_lxWord : Ctr := fun f vs h K _ => (f = 61 ∧ C_b loB vs h K) ∨ (f = 58 ∧ C_run vs h K) ∨ (f = 49 ∧ C_fault vs h K)
theorem G_lxWord_ok : GOk Tryd.prog G_lxWord := by
  rintro f vs h K KP (⟨rfl, hC⟩ | ⟨rfl, hC⟩ | ⟨rfl, hC⟩)
  · exact lxIsLower_ok hC
  · exact lxRun_ok hC
  · exact lxFault_ok hC
theorem lxWord_ok {vs : List Value} {h : H} {K : Value → H → Prop} {KP : List PanicEntry → H → Prop} (hC : C_tok noG wordF (fun s k => k < s.length ∧ wdB (bat s k) = true) vs h K) : HCX Tryd.prog 54 vs h K KP := by
  obtain ⟨u, B, s, k, rfl, hB, hk, hl, ⟨hlt, hw⟩, -, hK⟩ := hC
  have hr1 := run_word hlt hw
  have hr2 := runF_le s k hk
  have hB1 := hB.1
  refine lxWord_H G_lxWord G_lxWord_ok _ ?_
  have sp : Step (fun i => i = B) u h _ _ := Step.push0 (fun i => i = B) u h tok0.toArray 80
  have T0 : Blk (ub u h.size 0) (h.push (.cells tok0.toArray 80)) h.size tok0 := Blk.new tok0 _
  have sp1 := sp.pushR (c := (fltE 0 0).toArray) (t := 27)
  have T1 := T0.pushR (c := (fltE 0 0).toArray) (t := 27)
  have F1 : Blk (ub (ub u h.size 0) (h.size + 1) 0) ((h.push (.cells tok0.toArray 80)).push (.cells (fltE 0 0).toArray 27)) (h.size + 1) (fltE 0 0) := by have := Blk.new (u := ub u h.size 0) (h := h.push (.cells tok0.toArray 80)) (fltE 0 0) 27; simpa only [e_psz] using this
  simp only [e_psz] at sp1 T1
  simp (disch := first | omega | (simp only [e_ssz, e_psz, e_hszs, List.length_cons, List.length_nil]; try omega; done)) only [↓reduceIte, go_sem, lxWord_S, lxWord_E, hB.at, hB.2.1]
  refine effS_call (.inr (.inl ⟨rfl, B, s, k, rfl, by simp (disch := first | omega | (simp only [e_ssz, e_psz, e_hszs, List.length_cons, List.length_nil]; try omega; done)) only [go_sem, hB.2.1], by simp (disch := first | omega | (simp only [e_ssz, e_psz, e_hszs, List.length_cons, List.length_nil]; try omega; done)) only [go_sem, hB.at], hk, hl, ⟨by simp (disch := first | omega | (simp only [e_ssz, e_psz, e_hszs, List.length_cons, List.length_nil]; try omega; done)) only [go_sem], ?_⟩⟩))
  obtain ⟨e, he⟩ : ∃ e, e = runF s k := ⟨_, rfl⟩
  rw [← he] at hr1 hr2 ⊢
  by_cases h64 : 64 < e - k
  · have hF : wordF s k = .bad 14 k := by unfold wordF; rw [if_pos (by rw [← he]; exact h64)]
    rw [hF] at hK
    simp (disch := first | omega | (simp only [e_ssz, e_psz, e_hszs, List.length_cons, List.length_nil]; try omega; done)) only [↓reduceIte, go_sem, eq_true (show (64 : Int) < (e : Int) - (k : Int) by omega)]
    refine effS_call (.inr (.inr ⟨rfl, ub (ub u h.size 0) (h.size + 1) 0, _, 14, k, rfl, fun u2 h2 s2 => ⟨by simp (disch := first | omega | (simp only [e_ssz, e_psz, e_hszs, List.length_cons, List.length_nil]; try omega; done)) only [go_sem], ?_⟩⟩))
    obtain ⟨r1, r2, r3, -⟩ := res2 (la := tok0) (lb := fltE 14 k) (sp1.trans0 s2) (T1.step0 s2) (F1.step0 s2) (by omega) (by omega) (by omega) rfl rfl
    have T2 := T1.step0 s2
    have F2 := F1.step0 s2
    have T21 := T2.1; have F21 := F2.1
    simp only [tok0, fltE] at r1 r2 r3
    simp (disch := first | omega | (simp only [e_ssz, e_psz, e_hszs, List.length_cons, List.length_nil]; try omega; done)) only [↓reduceIte, go_sem, tok0, fltE, T2.2.1, T2.2.2.1, F2.2.1, F2.2.2.1, hsets_hsz, hsets_hfr, r2.at, r3.at, r2.2.1, r3.2.1]
    exact hK _ _ r1 (fun t ht => by cases ht)
  · have hst : Step (fun i => i = B) u h u (hset h B 1 (.int .i64 e)) := Step.set u h _ rfl (by rw [hB.2.2.2.1]; exact Nat.zero_le _)
    have hB' : Rdr u (hset h B 1 (.int .i64 e)) B s e := hB.set (i := 1) (v := .int .i64 e) (by simp)
    have hsl := subL (Nat.le_of_lt hr1) hr2
    have hpos : (0 : Int) < (((s.take e).drop k).length : Nat) := by omega
    by_cases hnot : sub s k e = [110, 111, 116]
    · have hF : wordF s k = .ok (10, [], 0, 0, k, e) := by unfold wordF; rw [← he, if_neg h64, if_pos hnot]
      rw [hF] at hK
      unfold sub at hnot
      simp (disch := first | omega | (simp only [e_ssz, e_psz, e_hszs, List.length_cons, List.length_nil]; try omega; done)) only [↓reduceIte, go_sem, eq_false (show ¬ (64 : Int) < (e : Int) - (k : Int) by omega), hB.at, hB.2.1, hB.2.2.1, eq_true hnot, eq_true hr2, eq_true (Nat.le_of_lt hr1)]
      exact hK _ _ (by repeat (first | exact Step.refl _ _ _ | assumption | apply Step.pushR)) (fun t ht => by cases ht; exact (by repeat (first | assumption | apply Blk.pushR)))
    · cases hlo : loB (bat s k) with
      | true =>
        have hF : wordF s k = .ok (1, sub s k e, 0, 0, k, e) := by unfold wordF; rw [← he, if_neg h64, if_neg hnot, if_pos hlo]
        rw [hF] at hK
        unfold sub at hnot hK
        simp (disch := first | omega | (simp only [e_ssz, e_psz, e_hszs, List.length_cons, List.length_nil]; try omega; done)) only [↓reduceIte, go_sem, eq_false (show ¬ (64 : Int) < (e : Int) - (k : Int) by omega), hB.at, hB.2.1, hB.2.2.1, eq_false hnot, eq_true hr2, eq_true (Nat.le_of_lt hr1), eq_true hpos]
        refine effS_call (.inl ⟨rfl, bat s k, by rw [sub0 hr1 hr2]; rfl, ⟨by simp (disch := first | omega | (simp only [e_ssz, e_psz, e_hszs, List.length_cons, List.length_nil]; try omega; done)) only [go_sem], ?_⟩⟩)
        rw [hlo]
        simp (disch := first | omega | (simp only [e_ssz, e_psz, e_hszs, List.length_cons, List.length_nil]; try omega; done)) only [↓reduceIte, go_sem]
        exact hK _ _ (by repeat (first | exact Step.refl _ _ _ | assumption | apply Step.pushR)) (fun t ht => by cases ht; exact (by repeat (first | assumption | apply Blk.pushR)))
      | false =>
        have hF : wordF s k = .ok (2, sub s k e, 0, 0, k, e) := by unfold wordF; rw [← he, if_neg h64, if_neg hnot, hlo]; rfl
        rw [hF] at hK
        unfold sub at hnot hK
        simp (disch := first | omega | (simp only [e_ssz, e_psz, e_hszs, List.length_cons, List.length_nil]; try omega; done)) only [↓reduceIte, go_sem, eq_false (show ¬ (64 : Int) < (e : Int) - (k : Int) by omega), hB.at, hB.2.1, hB.2.2.1, eq_false hnot, eq_true hr2, eq_true (Nat.le_of_lt hr1), eq_true hpos]
        refine effS_call (.inl ⟨rfl, bat s k, by rw [sub0 hr1 hr2]; rfl, ⟨by simp (disch := first | omega | (simp only [e_ssz, e_psz, e_hszs, List.length_cons, List.length_nil]; try omega; done)) only [go_sem], ?_⟩⟩)
        rw [hlo]
        simp (disch := first | omega | (simp only [e_ssz, e_psz, e_hszs, List.length_cons, List.length_nil]; try omega; done)) only [↓reduceIte, go_sem]
        exact hK _ _ (by repeat (first | exact Step.refl _ _ _ | assumption | apply Step.pushR)) (fun t ht => by cases ht; exact (by repeat (first | assumption | apply Blk.pushR)))
end Go.Proofs.YtlenjlidahnklaaDoor
