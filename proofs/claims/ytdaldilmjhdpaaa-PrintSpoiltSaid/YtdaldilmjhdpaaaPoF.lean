/- PrintSpoilt: print.Clause of a head alone, and of what is not well; print.Program of what is not well. -/
import Derived.Test.YtdaldilmjhdpaaaPoE
namespace Go.Proofs.Ytdaldilmjhdpaaa
open Go Go.Ev Edict
def C_clauseW (vs : List Value) (h : H) (K : Value → H → Prop) : Prop := ∃ (b : Nat) (a : Atom) (v : Value) (k : Nat) (u : U) (bo : Option Addr) (bc : Nat), vs = [.agg #[str a.1, v, .int .i64 a.2.2, .slice bo 0 bc], .pointer (some ⟨b, 0, none⟩)] ∧ IsSl u h v a.2.1 ∧ (∀ t ∈ a.2.1, Rep.wf t) ∧ atomW a = 0 ∧
  Bu k u h b [] ∧ PowT u h ∧ ∀ u' h' (m : List UInt8), Step (fun i => k ≤ i) u h u' h' → Bu k u' h' b m → m ≠ [] → K (.tuple #[]) h'
def G_poClauseW : Ctr := fun f vs h K _ => (f = 27 ∧ C_atomW vs h K) ∨ (f = 18 ∧ C_wbyte vs h K)
theorem G_poClauseW_ok : GOk Try.prog G_poClauseW := by
  rintro f vs h K KP (⟨rfl, hC⟩ | ⟨rfl, hC⟩)
  · exact prAtomW_ok hC
  · exact sbWriteByte_ok hC
theorem poClauseW_ok {vs : List Value} {h : H} {K : Value → H → Prop} {KP : List PanicEntry → H → Prop} (hC : C_clauseW vs h K) : HCX Try.prog 17 vs h K KP := by
  obtain ⟨b, a, v, k, u, bo, bc, rfl, hl, hw, ha, B, hP, hK⟩ := hC
  obtain ⟨la, lc, rfl, q1, q2⟩ := hl.sl
  refine poClauseW_H G_poClauseW G_poClauseW_ok _ _ ?_
  have sp : Step S0 u h _ _ := Step.push0 S0 u h #[str a.1, .slice la a.2.1.length lc, .int .i64 a.2.2, .slice bo 0 bc] 47
  have X : Blk (ub u h.size 0) (h.push (.cells #[str a.1, .slice la a.2.1.length lc, .int .i64 a.2.2, .slice bo 0 bc] 47)) h.size [str a.1, .slice la a.2.1.length lc, .int .i64 a.2.2, .slice bo 0 bc] := Blk.new [str a.1, .slice la a.2.1.length lc, .int .i64 a.2.2, .slice bo 0 bc] _
  obtain ⟨B1, e1⟩ := B.step0 sp
  simp (disch := first | omega | (simp only [e_ssz, e_psz, e_hszs, List.length_cons, List.length_nil]; try omega; done)) only [↓reduceIte, go_sem, poClauseW_S, poClauseW_E]
  refine effS_call (.inl ⟨rfl, b, a, _, k, ub u h.size 0, rfl, hl.mono sp.ge, hw, ha, B1, hP.mono sp.ge, fun u2 h2 m s2 B2 hm hml => ⟨by simp (disch := first | omega | (simp only [e_ssz, e_psz, e_hszs, List.length_cons, List.length_nil]; try omega; done)) only [go_sem], ?_⟩⟩)
  have X2 := X.step s2 (fun hB => by
    have hB : BldB h b h.size := hB.imp id (fun q => by rw [e1] at q; exact q)
    have := (B.ge hB).2
    omega)
  have x2 := X2.1
  simp (disch := first | omega | (simp only [e_ssz, e_psz, e_hszs, List.length_cons, List.length_nil]; try omega; done)) only [↓reduceIte, go_sem, X2.at, X2.2.1]
  refine effS_call (.inr ⟨rfl, _, 46, rfl, k, u2, b, m, rfl, B2, by simp; omega, fun u3 h3 s3 B3 hb3 => ⟨by simp (disch := first | omega | (simp only [e_ssz, e_psz, e_hszs, List.length_cons, List.length_nil]; try omega; done)) only [go_sem], ?_⟩⟩)
  simp (disch := first | omega | (simp only [e_ssz, e_psz, e_hszs, List.length_cons, List.length_nil]; try omega; done)) only [go_sem]
  have t1 : Step (fun i => k ≤ i) u h u2 h2 := (sp.mono (S' := fun i => k ≤ i) (fun _ _ h => h.elim)).trans s2 (fun j _ hB => (B1.ge hB).1)
  exact hK u3 h3 _ (t1.trans s3 (fun j _ hB => (B2.ge hB).1)) B3 (by simp)
/-- A clause's text: of a head alone, or of what is not well. -/
def C_textC (vs : List Value) (h : H) (K : Value → H → Prop) : Prop := ∃ (u : U) (e : Int) (c : Clause) (l : List Value), vs = [.int .i64 e, .iface 47 (.agg l.toArray)] ∧ e = clauseW c ∧ Rep.rep u h c l ∧ (e = 0 → c.2 = [] ∧ ∀ t ∈ c.1.2.1, Rep.wf t) ∧ PowT u h ∧
  ∀ u' h' (s : List UInt8), Step S0 u h u' h' → (s = [] ↔ clauseW c ≠ 0) → K (str s) h'
def G_poText : Ctr := fun f vs h K _ => (f = 17 ∧ C_clauseW vs h K) ∨ (f = 19 ∧ C_bstring vs h K)
theorem G_poText_ok : GOk Try.prog G_poText := by
  rintro f vs h K KP (⟨rfl, hC⟩ | ⟨rfl, hC⟩)
  · exact poClauseW_ok hC
  · exact sbString_ok hC
theorem poText_ok {vs : List Value} {h : H} {K : Value → H → Prop} {KP : List PanicEntry → H → Prop} (hC : C_textC vs h K) : HCX Try.prog 13 vs h K KP := by
  obtain ⟨u, e, c, l, rfl, rfl, hr, he, hP, hK⟩ := hC
  refine prText_H G_poText G_poText_ok _ _ ?_
  by_cases h0 : clauseW c = 0
  · obtain ⟨hb, hw⟩ := he h0
    have ha : atomW c.1 = 0 := by
      unfold clauseW at h0
      split at h0
      · assumption
      · exact h0
    rw [rep_clause] at hr
    obtain ⟨va, vb, rfl, ia, ib⟩ := hr
    rw [hb] at ib
    obtain ⟨x0, y0, rfl, -, -⟩ := ib.sl
    obtain ⟨la, lc, rfl, -, -⟩ := ia.sl
    simp (disch := first | omega | (simp only [e_ssz, e_psz, e_hszs, List.length_cons, List.length_nil]; try omega; done)) only [↓reduceIte, go_sem, prText_S, prText_E, eq_true h0]
    have sp : Step S0 u h _ _ := Step.push0 S0 u h #[.pointer none, .slice none 0 0] 55
    have B := Bu.new u h
    refine effS_inv rfl (.inl ⟨rfl, h.size, c.1, .slice la c.1.2.1.length lc, h.size, ub u h.size 0, x0, y0, rfl, ia.mono sp.ge, hw, ha, B, hP.mono sp.ge, fun u1 h1 m s1 B1 hm => ⟨by simp (disch := first | omega | (simp only [e_ssz, e_psz, e_hszs, List.length_cons, List.length_nil]; try omega; done)) only [go_sem], ?_⟩⟩)
    have st1 : Step S0 u h u1 h1 := sp.trans s1 (fun i hi hB => by have hB : h.size ≤ i := hB; omega)
    simp (disch := first | omega | (simp only [e_ssz, e_psz, e_hszs, List.length_cons, List.length_nil]; try omega; done)) only [↓reduceIte, go_sem]
    refine effS_call (.inr ⟨rfl, h.size, u1, h.size, m, rfl, B1, hm, fun h2 hs hb => ⟨by simp (disch := first | omega | (simp only [e_ssz, e_psz, e_hszs, List.length_cons, List.length_nil]; try omega; done)) only [go_sem], ?_⟩⟩)
    simp (disch := first | omega | (simp only [e_ssz, e_psz, e_hszs, List.length_cons, List.length_nil]; try omega; done)) only [↓reduceIte, go_sem]
    exact hK u1 h2 m (Step.below st1 hs hb) ⟨fun e => absurd e hm, fun e => absurd h0 e⟩
  · simp (disch := first | omega | (simp only [e_ssz, e_psz, e_hszs, List.length_cons, List.length_nil]; try omega; done)) only [↓reduceIte, go_sem, prText_S, prText_E, eq_false h0]
    exact hK u h [] (.refl _ _ _) ⟨fun _ => h0, fun _ => rfl⟩
def C_poClause (vs : List Value) (h : H) (K : Value → H → Prop) : Prop := ∃ (u : U) (c : Clause) (l : List Value), vs = [.agg l.toArray] ∧ Rep.rep u h c l ∧ Rep.wf c ∧ (clauseW c = 0 → c.2 = []) ∧ PowT u h ∧
  ∀ u' h' (s : List UInt8), Step S0 u h u' h' → (s = [] ↔ clauseW c ≠ 0) → K (str s) h'
def G_poClause : Ctr := fun f vs h K _ => (f = 14 ∧ C_data (vI clauseW) vs h K) ∨ (f = 13 ∧ C_textC vs h K)
theorem G_poClause_ok : GOk Try.prog G_poClause := by
  rintro f vs h K KP (⟨rfl, hC⟩ | ⟨rfl, hC⟩)
  · exact prWellClause_ok hC
  · exact poText_ok hC
theorem poClause_ok {vs : List Value} {h : H} {K : Value → H → Prop} {KP : List PanicEntry → H → Prop} (hC : C_poClause vs h K) : HCX Try.prog 5 vs h K KP := by
  obtain ⟨u, c, l, rfl, hr, hw, hb, hP, hK⟩ := hC
  have hr0 := hr
  rw [rep_clause] at hr
  obtain ⟨va, vb, rfl, ia, ib⟩ := hr
  obtain ⟨la, lc, rfl, -, -⟩ := ia.sl
  obtain ⟨ba, bc, rfl, -, -⟩ := ib.sl
  refine poClause_H G_poClause G_poClause_ok _ ?_
  have sp := Step.push0 S0 u h #[str c.1.1, .slice la c.1.2.1.length lc, .int .i64 c.1.2.2, .slice ba c.2.length bc] 31
  have X := Blk.new (u := u) (h := h) [str c.1.1, .slice la c.1.2.1.length lc, .int .i64 c.1.2.2, .slice ba c.2.length bc] 31
  simp (disch := first | omega | (simp only [e_ssz, e_psz, e_hszs, List.length_cons, List.length_nil]; try omega; done)) only [↓reduceIte, go_sem, poClause_S, poClause_E]
  refine effS_call (.inl ⟨rfl, ub u h.size 0, c, _, rfl, Rep.mono sp.ge hr0, hw, fun u2 h2 s2 => ?_⟩)
  have X2 := X.step0 s2
  have x2 := X2.1
  refine ⟨by simp (disch := first | omega | (simp only [e_ssz, e_psz, e_hszs, List.length_cons, List.length_nil]; try omega; done)) only [↓reduceIte, go_sem, X2.at, X2.2.1], ?_⟩
  have st := sp.trans0 s2
  simp (disch := first | omega | (simp only [e_ssz, e_psz, e_hszs, List.length_cons, List.length_nil]; try omega; done)) only [↓reduceIte, go_sem, vI]
  refine effS_call (.inr ⟨rfl, u2, clauseW c, c, _, rfl, rfl, Rep.mono st.ge hr0, fun h0 => ⟨hb h0, hw.1.2.1.2⟩, hP.mono st.ge, fun u3 h3 s s3 hs => ⟨by simp (disch := first | omega | (simp only [e_ssz, e_psz, e_hszs, List.length_cons, List.length_nil]; try omega; done)) only [go_sem], ?_⟩⟩)
  simp (disch := first | omega | (simp only [e_ssz, e_psz, e_hszs, List.length_cons, List.length_nil]; try omega; done)) only [↓reduceIte, go_sem]
  exact hK _ _ s (st.trans0 s3) hs
end Go.Proofs.Ytdaldilmjhdpaaa
