/- print.Atom: a text, empty where the atom is none. -/
import Derived.Test.YtdaldilmjhdpaaaKpC
namespace Edict
theorem firstW_all {α : Type} {f : α → Int} : ∀ {l : List α}, firstW f l = 0 → ∀ x ∈ l, f x = 0
  | [], _, x, hx => by cases hx
  | a :: l, h, x, hx => by
    unfold firstW at h
    by_cases e : f a = 0
    · rw [if_pos e] at h
      rcases List.mem_cons.1 hx with rfl | hx
      · exact e
      · exact firstW_all h x hx
    · rw [if_neg e] at h; exact absurd h e
theorem atomW_zero {a : Atom} (h : atomW a = 0) : nameB a.1 = true ∧ a.2.1.length ≤ 8 ∧ ∀ t ∈ a.2.1, termW t = 0 := by
  unfold atomW at h
  by_cases h1 : nameB a.1 = true
  · rw [if_pos h1] at h
    by_cases h2 : 8 < a.2.1.length
    · rw [if_pos h2] at h; cases h
    · rw [if_neg h2] at h
      exact ⟨h1, by omega, firstW_all h⟩
  · rw [if_neg h1] at h; cases h
theorem name_ne {s : List UInt8} (h : nameB s = true) : s ≠ [] := by
  rintro rfl
  simp [nameB, wordB] at h
end Edict
namespace Go.Proofs.Ytdaldilmjhdpaaa
open Go Go.Ev Edict
def C_applied (vs : List Value) (h : H) (K : Value → H → Prop) : Prop := ∃ (b : Nat) (p : List UInt8) (v : Value) (l : List Term) (k : Nat) (u : U), vs = [.pointer (some ⟨b, 0, none⟩), str p, v] ∧ (∀ t ∈ l, Rep.wf t ∧ termW t = 0) ∧ l.length ≤ 8 ∧ p.length ≤ 64 ∧ p ≠ [] ∧
  Bu k u h b [] ∧ PowT u h ∧ IsSlP u h v l ∧
  ∀ u' h' (m : List UInt8), Step (BldB h b) u h u' h' → Bu k u' h' b m → m ≠ [] → m.length ≤ 32768 → K (.tuple #[]) h'
def G_prApplied : Ctr := fun f vs h K _ => (f = 28 ∧ C_wstr vs h K) ∨ (f = 18 ∧ C_wbyte vs h K) ∨ (f = 29 ∧ C_between vs h K)
theorem G_prApplied_ok : GOk Try.prog G_prApplied := by
  rintro f vs h K KP (⟨rfl, hC⟩ | ⟨rfl, hC⟩ | ⟨rfl, hC⟩)
  · exact sbWriteString_ok hC
  · exact sbWriteByte_ok hC
  · exact prBetween_ok hC
theorem prApplied_ok {vs : List Value} {h : H} {K : Value → H → Prop} {KP : List PanicEntry → H → Prop} (hC : C_applied vs h K) : HCX Try.prog 36 vs h K KP := by
  obtain ⟨b, p, v, l, k, u, rfl, hall, hlen, hp, hpn, B, hP, hl, hK⟩ := hC
  obtain ⟨la, lc, rfl, q1, q2⟩ := @IsSl.sl Term repPart _ _ _ _ hl
  refine prApplied_H G_prApplied G_prApplied_ok _ _ _ ?_
  simp (disch := first | omega | (simp only [e_ssz, e_psz, e_hszs, List.length_cons, List.length_nil]; try omega; done)) only [↓reduceIte, go_sem, prApplied_S, prApplied_E]
  refine effS_call (.inl ⟨rfl, _, p, rfl, k, u, b, [], rfl, B, by simp; omega, fun u1 h1 s1 B1 hb1 => ⟨by simp (disch := first | omega | (simp only [e_ssz, e_psz, e_hszs, List.length_cons, List.length_nil]; try omega; done)) only [go_sem], ?_⟩⟩)
  rw [List.nil_append] at B1
  by_cases h0 : l.length = 0
  · simp (disch := first | omega | (simp only [e_ssz, e_psz, e_hszs, List.length_cons, List.length_nil]; try omega; done)) only [↓reduceIte, go_sem, eq_false (show ¬ (0 : Int) < l.length by omega)]
    exact hK u1 h1 p s1 B1 hpn (by omega)
  · simp (disch := first | omega | (simp only [e_ssz, e_psz, e_hszs, List.length_cons, List.length_nil]; try omega; done)) only [↓reduceIte, go_sem, eq_true (show (0 : Int) < l.length by omega)]
    refine effS_call (.inr (.inl ⟨rfl, _, 40, rfl, k, u1, b, p, rfl, B1, by simp; omega, fun u2 h2 s2 B2 hb2 => ⟨by simp (disch := first | omega | (simp only [e_ssz, e_psz, e_hszs, List.length_cons, List.length_nil]; try omega; done)) only [go_sem], ?_⟩⟩))
    obtain ⟨c1, c2⟩ := bld_chain s1 hb1 s2 hb2
    simp (disch := first | omega | (simp only [e_ssz, e_psz, e_hszs, List.length_cons, List.length_nil]; try omega; done)) only [↓reduceIte, go_sem]
    refine effS_call (.inr (.inr ⟨rfl, b, _, l, u2, rfl, hall, hlen, k, u2, _, B2, by simp; omega, hP.mono c1.ge, @IsSl.mono Term repPart _ _ _ _ _ _ c1.ge hl, fun u3 h3 m s3 B3 hm hb3 => ⟨by simp (disch := first | omega | (simp only [e_ssz, e_psz, e_hszs, List.length_cons, List.length_nil]; try omega; done)) only [go_sem], ?_⟩⟩))
    obtain ⟨c3, c4⟩ := bld_chain c1 c2 s3 hb3
    simp (disch := first | omega | (simp only [e_ssz, e_psz, e_hszs, List.length_cons, List.length_nil]; try omega; done)) only [↓reduceIte, go_sem]
    refine effS_call (.inr (.inl ⟨rfl, _, 41, rfl, k, u3, b, _, rfl, B3, by simp; omega, fun u4 h4 s4 B4 hb4 => ⟨by simp (disch := first | omega | (simp only [e_ssz, e_psz, e_hszs, List.length_cons, List.length_nil]; try omega; done)) only [go_sem], ?_⟩⟩))
    obtain ⟨c5, -⟩ := bld_chain c3 c4 s4 hb4
    simp (disch := first | omega | (simp only [e_ssz, e_psz, e_hszs, List.length_cons, List.length_nil]; try omega; done)) only [go_sem]
    exact hK u4 h4 _ c5 B4 (by simp) (by simp; omega)
def C_atomW (vs : List Value) (h : H) (K : Value → H → Prop) : Prop := ∃ (b : Nat) (a : Atom) (v : Value) (k : Nat) (u : U), vs = [.agg #[str a.1, v, .int .i64 a.2.2], .pointer (some ⟨b, 0, none⟩)] ∧ IsSl u h v a.2.1 ∧ (∀ t ∈ a.2.1, Rep.wf t) ∧ atomW a = 0 ∧
  Bu k u h b [] ∧ PowT u h ∧ ∀ u' h' (m : List UInt8), Step (BldB h b) u h u' h' → Bu k u' h' b m → m ≠ [] → m.length ≤ 32768 → K (.tuple #[]) h'
def G_prAtomW : Ctr := fun f vs h K _ => (f = 37 ∧ C_parts vs h K) ∨ (f = 36 ∧ C_applied vs h K)
theorem G_prAtomW_ok : GOk Try.prog G_prAtomW := by
  rintro f vs h K KP (⟨rfl, hC⟩ | ⟨rfl, hC⟩)
  · exact prParts_ok hC
  · exact prApplied_ok hC
theorem prAtomW_ok {vs : List Value} {h : H} {K : Value → H → Prop} {KP : List PanicEntry → H → Prop} (hC : C_atomW vs h K) : HCX Try.prog 27 vs h K KP := by
  obtain ⟨b, a, v, k, u, rfl, hl, hw, ha, B, hP, hK⟩ := hC
  obtain ⟨z1, z2, z3⟩ := atomW_zero ha
  obtain ⟨la, lc, rfl, q1, q2⟩ := hl.sl
  refine prAtomW_H G_prAtomW G_prAtomW_ok _ _ ?_
  have sp : Step S0 u h _ _ := Step.push0 S0 u h #[str a.1, .slice la a.2.1.length lc, .int .i64 a.2.2] 71
  have X : Blk (ub u h.size 0) (h.push (.cells #[str a.1, .slice la a.2.1.length lc, .int .i64 a.2.2] 71)) h.size [str a.1, .slice la a.2.1.length lc, .int .i64 a.2.2] := (Blk.mk (by simp only [e_psz]; omega) (by simp (disch := first | omega | (simp only [e_ssz, e_psz, e_hszs, List.length_cons, List.length_nil]; try omega; done)) only [go_sem]) (by simp (disch := first | omega | (simp only [e_ssz, e_psz, e_hszs, List.length_cons, List.length_nil]; try omega; done)) only [go_sem]) (by repeat (first | (refine ub_at ?_; simp only []; done) | apply ub_zero)) (by simp (disch := first | omega | (simp only [e_ssz, e_psz, e_hszs, List.length_cons, List.length_nil]; try omega; done)) only [go_sem]))
  simp (disch := first | omega | (simp only [e_ssz, e_psz, e_hszs, List.length_cons, List.length_nil]; try omega; done)) only [↓reduceIte, go_sem, prAtomW_S, prAtomW_E]
  refine effS_call (.inl ⟨rfl, ub u h.size 0, _, a.2.1, rfl, hl.mono sp.ge, by omega, fun u1 h1 w s1 hw1 => ⟨?_, ?_⟩⟩)
  · have X1 := X.step0 s1
    simp (disch := first | omega | (simp only [e_ssz, e_psz, e_hszs, List.length_cons, List.length_nil]; try omega; done)) only [↓reduceIte, go_sem, X.at, X1.at, X1.2.1]
  have st1 := sp.trans0 s1
  obtain ⟨B1, e1⟩ := B.step0 st1
  simp (disch := first | omega | (simp only [e_ssz, e_psz, e_hszs, List.length_cons, List.length_nil]; try omega; done)) only [↓reduceIte, go_sem]
  refine effS_call (.inr ⟨rfl, b, a.1, w, a.2.1, k, u1, rfl, fun t ht => ⟨hw t ht, z3 t ht⟩, z2, name_len z1, name_ne z1, B1, hP.mono st1.ge, hw1, fun u2 h2 m s2 B2 hm hml => ⟨by simp (disch := first | omega | (simp only [e_ssz, e_psz, e_hszs, List.length_cons, List.length_nil]; try omega; done)) only [go_sem], ?_⟩⟩)
  have eB : ∀ j, BldB h1 b j → BldB h b j := fun j hB => hB.imp id fun hB => by rw [e1] at hB; exact hB
  simp (disch := first | omega | (simp only [e_ssz, e_psz, e_hszs, List.length_cons, List.length_nil]; try omega; done)) only [go_sem]
  exact hK u2 h2 m ((st1.mono (S' := BldB h b) (fun _ _ h => h.elim)).trans s2 (fun j _ hB => eB j hB)) B2 hm hml
def C_textA (vs : List Value) (h : H) (K : Value → H → Prop) : Prop := ∃ (a : Atom) (v : Value) (u : U), vs = [.int .i64 (atomW a), .iface 71 (.agg #[str a.1, v, .int .i64 a.2.2])] ∧ IsSl u h v a.2.1 ∧ (∀ t ∈ a.2.1, Rep.wf t) ∧ PowT u h ∧
  ∀ u' h' (s : List UInt8), Step S0 u h u' h' → (s = [] ↔ atomW a ≠ 0) → K (str s) h'
def G_prText : Ctr := fun f vs h K _ => (f = 27 ∧ C_atomW vs h K) ∨ (f = 19 ∧ C_bstring vs h K)
theorem G_prText_ok : GOk Try.prog G_prText := by
  rintro f vs h K KP (⟨rfl, hC⟩ | ⟨rfl, hC⟩)
  · exact prAtomW_ok hC
  · exact sbString_ok hC
theorem prText_ok {vs : List Value} {h : H} {K : Value → H → Prop} {KP : List PanicEntry → H → Prop} (hC : C_textA vs h K) : HCX Try.prog 13 vs h K KP := by
  obtain ⟨a, v, u, rfl, hl, hw, hP, hK⟩ := hC
  refine prText_H G_prText G_prText_ok _ _ ?_
  by_cases h0 : atomW a = 0
  · simp (disch := first | omega | (simp only [e_ssz, e_psz, e_hszs, List.length_cons, List.length_nil]; try omega; done)) only [↓reduceIte, go_sem, prText_S, prText_E, eq_true h0]
    have sp : Step S0 u h _ _ := Step.push0 S0 u h #[.pointer none, .slice none 0 0] 55
    have B := Bu.new u h
    refine effS_inv rfl (.inl ⟨rfl, h.size, a, v, h.size, ub u h.size 0, rfl, hl.mono sp.ge, hw, h0, B, hP.mono sp.ge, fun u1 h1 m s1 B1 hm _ => ⟨by simp (disch := first | omega | (simp only [e_ssz, e_psz, e_hszs, List.length_cons, List.length_nil]; try omega; done)) only [go_sem], ?_⟩⟩)
    have st1 : Step S0 u h u1 h1 := sp.trans s1 (fun i hi hB => by have := (B.ge hB).1; omega)
    simp (disch := first | omega | (simp only [e_ssz, e_psz, e_hszs, List.length_cons, List.length_nil]; try omega; done)) only [↓reduceIte, go_sem]
    refine effS_call (.inr ⟨rfl, h.size, u1, h.size, m, rfl, B1, hm, fun h2 hs hb => ⟨by simp (disch := first | omega | (simp only [e_ssz, e_psz, e_hszs, List.length_cons, List.length_nil]; try omega; done)) only [go_sem], ?_⟩⟩)
    simp (disch := first | omega | (simp only [e_ssz, e_psz, e_hszs, List.length_cons, List.length_nil]; try omega; done)) only [↓reduceIte, go_sem]
    exact hK u1 h2 m (Step.below st1 hs hb) ⟨fun e => absurd e hm, fun e => absurd h0 e⟩
  · simp (disch := first | omega | (simp only [e_ssz, e_psz, e_hszs, List.length_cons, List.length_nil]; try omega; done)) only [↓reduceIte, go_sem, prText_S, prText_E, eq_false h0]
    exact hK u h [] (.refl _ _ _) ⟨fun _ => h0, fun _ => rfl⟩
end Go.Proofs.Ytdaldilmjhdpaaa
