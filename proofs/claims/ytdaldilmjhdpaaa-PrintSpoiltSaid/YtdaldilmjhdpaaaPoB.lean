/- PrintSpoilt: name, variable, constant, term. -/
import Derived.Test.YtdaldilmjhdpaaaPoA
namespace Edict
theorem name_len2 (s : Byts) : (nameM s).length ≤ 64 := name_len (name_ok s)
end Edict
namespace Go.Proofs.Ytdaldilmjhdpaaa
open Go Go.Ev Edict
def C_poStr (f : List UInt8 → List UInt8) (vs : List Value) (h : H) (K : Value → H → Prop) : Prop := ∃ (u : U) (s : List UInt8), vs = [str s] ∧ s.length ≤ 9223372036854775807 ∧ ∀ u' h', Step S0 u h u' h' → K (str (f s)) h'
def G_poName : Ctr := fun f vs h K _ => f = 20 ∧ C_poWord vs h K
theorem G_poName_ok : GOk Try.prog G_poName := by
  rintro f vs h K KP ⟨rfl, hC⟩; exact poWord_ok hC
theorem poName_ok {vs : List Value} {h : H} {K : Value → H → Prop} {KP : List PanicEntry → H → Prop} (hC : C_poStr nameM vs h K) : HCX Try.prog 11 vs h K KP := by
  obtain ⟨u, s, rfl, hs, hK⟩ := hC
  refine poName_H G_poName G_poName_ok _ ?_
  simp (disch := first | omega | (simp only [e_ssz, e_psz, e_hszs, List.length_cons, List.length_nil]; try omega; done)) only [↓reduceIte, go_sem, poName_S, poName_E]
  refine effS_call ⟨rfl, u, s, 97, rfl, by decide, hs, fun u1 h1 s1 => ⟨by simp (disch := first | omega | (simp only [e_ssz, e_psz, e_hszs, List.length_cons, List.length_nil]; try omega; done)) only [go_sem], ?_⟩⟩
  have h2 := hK u1 h1 s1
  unfold nameM at h2
  by_cases hn : wrdF 97 s = [110, 111, 116]
  · rw [if_pos hn] at h2
    simp (disch := first | omega | (simp only [e_ssz, e_psz, e_hszs, List.length_cons, List.length_nil]; try omega; done)) only [↓reduceIte, go_sem, eq_true hn]
    exact h2
  · rw [if_neg hn] at h2
    simp (disch := first | omega | (simp only [e_ssz, e_psz, e_hszs, List.length_cons, List.length_nil]; try omega; done)) only [↓reduceIte, go_sem, eq_false hn]
    exact h2
theorem poVar_ok {vs : List Value} {h : H} {K : Value → H → Prop} {KP : List PanicEntry → H → Prop} (hC : C_poStr varM vs h K) : HCX Try.prog 21 vs h K KP := by
  obtain ⟨u, s, rfl, hs, hK⟩ := hC
  refine poVar_H G_poName G_poName_ok _ ?_
  unfold varM at hK
  have ht : ((s.length : Int)).tmod 5 = ((s.length % 5 : Nat) : Int) := rfl
  by_cases h1 : s.length % 5 = 1
  · simp only [if_pos h1] at hK
    simp (disch := first | omega | (simp only [e_ssz, e_psz, e_hszs, List.length_cons, List.length_nil]; try omega; done)) only [↓reduceIte, go_sem, poVar_S, poVar_E, ht, eq_true (show ((s.length % 5 : Nat) : Int) = 1 by omega)]
    exact hK u h (.refl _ _ _)
  · simp only [if_neg h1] at hK
    by_cases h2 : s.length % 5 = 2 ∧ s.length < 64
    · simp only [if_pos h2] at hK
      simp (disch := first | omega | (simp only [e_ssz, e_psz, e_hszs, List.length_cons, List.length_nil]; try omega; done)) only [↓reduceIte, go_sem, poVar_S, poVar_E, ht, eq_false (show ¬ ((s.length % 5 : Nat) : Int) = 1 by omega), eq_true (show ((s.length % 5 : Nat) : Int) = 2 by omega), eq_true (show ((s.length : Nat) : Int) < 64 by omega)]
      refine effS_call ⟨rfl, u, s, 65, rfl, by decide, hs, fun u1 h1 s1 => ⟨by simp (disch := first | omega | (simp only [e_ssz, e_psz, e_hszs, List.length_cons, List.length_nil]; try omega; done)) only [go_sem], ?_⟩⟩
      have hl := wrd_len 65 s
      simp (disch := first | omega | (simp only [e_ssz, e_psz, e_hszs, List.length_cons, List.length_nil]; try omega; done)) only [↓reduceIte, go_sem]
      exact ⟨by omega, hK u1 h1 s1⟩
    · simp only [if_neg h2] at hK
      by_cases h3 : s.length % 5 = 2
      · simp (disch := first | omega | (simp only [e_ssz, e_psz, e_hszs, List.length_cons, List.length_nil]; try omega; done)) only [↓reduceIte, go_sem, poVar_S, poVar_E, ht, eq_false (show ¬ ((s.length % 5 : Nat) : Int) = 1 by omega), eq_true (show ((s.length % 5 : Nat) : Int) = 2 by omega), eq_false (show ¬ ((s.length : Nat) : Int) < 64 by omega)]
        refine effS_call ⟨rfl, u, s, 65, rfl, by decide, hs, fun u1 h1 s1 => ⟨by simp (disch := first | omega | (simp only [e_ssz, e_psz, e_hszs, List.length_cons, List.length_nil]; try omega; done)) only [go_sem], ?_⟩⟩
        simp (disch := first | omega | (simp only [e_ssz, e_psz, e_hszs, List.length_cons, List.length_nil]; try omega; done)) only [↓reduceIte, go_sem]
        exact hK u1 h1 s1
      · simp (disch := first | omega | (simp only [e_ssz, e_psz, e_hszs, List.length_cons, List.length_nil]; try omega; done)) only [↓reduceIte, go_sem, poVar_S, poVar_E, ht, eq_false (show ¬ ((s.length % 5 : Nat) : Int) = 1 by omega), eq_false (show ¬ ((s.length % 5 : Nat) : Int) = 2 by omega)]
        refine effS_call ⟨rfl, u, s, 65, rfl, by decide, hs, fun u1 h1 s1 => ⟨by simp (disch := first | omega | (simp only [e_ssz, e_psz, e_hszs, List.length_cons, List.length_nil]; try omega; done)) only [go_sem], ?_⟩⟩
        simp (disch := first | omega | (simp only [e_ssz, e_psz, e_hszs, List.length_cons, List.length_nil]; try omega; done)) only [↓reduceIte, go_sem]
        exact hK u1 h1 s1
def C_poCon (vs : List Value) (h : H) (K : Value → H → Prop) : Prop := ∃ (u : U) (k n : Int) (s : List UInt8), vs = [.int .i64 k, .int .i64 n, str s] ∧ s.length ≤ 9223372036854775807 ∧ ∀ u' h', Step S0 u h u' h' → K (.agg #[.int .i64 (conM k n s).1, .int .i64 (conM k n s).2.1, str (conM k n s).2.2]) h'
def G_poCon : Ctr := fun f vs h K _ => (f = 7 ∧ C_poMod vs h K) ∨ (f = 11 ∧ C_poStr nameM vs h K)
theorem G_poCon_ok : GOk Try.prog G_poCon := by
  rintro f vs h K KP (⟨rfl, hC⟩ | ⟨rfl, hC⟩)
  · exact poMod_ok hC
  · exact poName_ok hC
theorem poCon_ok {vs : List Value} {h : H} {K : Value → H → Prop} {KP : List PanicEntry → H → Prop} (hC : C_poCon vs h K) : HCX Try.prog 22 vs h K KP := by
  obtain ⟨u, k, n, s, rfl, hs, hK⟩ := hC
  refine poCon_H G_poCon G_poCon_ok _ _ _ ?_
  have s1 := Step.push0 S0 u h #[.int .i64 0, .int .i64 0, str []] 63
  have B := Blk.new (u := u) (h := h) [.int .i64 0, .int .i64 0, str []] 63
  simp (disch := first | omega | (simp only [e_ssz, e_psz, e_hszs, List.length_cons, List.length_nil]; try omega; done)) only [↓reduceIte, go_sem, poCon_S, poCon_E]
  refine effS_call (.inl ⟨rfl, k, 3, rfl, by decide, by decide, ⟨by simp (disch := first | omega | (simp only [e_ssz, e_psz, e_hszs, List.length_cons, List.length_nil]; try omega; done)) only [go_sem], ?_⟩⟩)
  obtain ⟨p, hp⟩ : ∃ p, p = h.size := ⟨_, rfl⟩
  generalize ub u h.size 0 = u1 at s1 B
  obtain ⟨h1, hh1⟩ : ∃ h1, h1 = h.push (.cells #[.int .i64 0, .int .i64 0, str []] 63) := ⟨_, rfl⟩
  have B : Blk u1 h1 p [.int .i64 0, .int .i64 0, str []] := by rw [hh1, hp]; exact B
  rw [← hh1] at s1
  rw [← hh1, ← hp]
  have b := B.1
  unfold conM at hK
  by_cases h3 : k % 3 = 0
  · simp only [if_pos h3] at hK
    have E := B.sets (l := [.int .i64 1, .int .i64 n, str []]) rfl
    have sw : Step (fun j => j = p) u1 h1 u1 (hsets h1 p 0 [.int .i64 1, .int .i64 n, str []]) := Step.sets u1 h1 _ rfl (by rw [B.2.2.2.1]; exact Nat.le_refl _) (by rw [B.2.1]; exact Nat.le_refl _)
    simp (disch := first | omega | (simp only [e_ssz, e_psz, e_hszs, List.length_cons, List.length_nil]; try omega; done)) only [↓reduceIte, go_sem, eq_true h3, B.2.1, B.2.2.1, hsets_hsz, E.at]
    exact hK _ _ (s1.own sw (fun j e => by have e : j = p := e; omega))
  · simp only [if_neg h3] at hK
    by_cases h4 : k % 3 = 1
    · simp only [if_pos h4] at hK
      simp (disch := first | omega | (simp only [e_ssz, e_psz, e_hszs, List.length_cons, List.length_nil]; try omega; done)) only [↓reduceIte, go_sem, eq_false h3, eq_true h4]
      refine effS_call (.inr ⟨rfl, u1, s, rfl, hs, fun u2 h2 s2 => ⟨by simp (disch := first | omega | (simp only [e_ssz, e_psz, e_hszs, List.length_cons, List.length_nil]; try omega; done)) only [go_sem], ?_⟩⟩)
      have B2 := B.step0 s2
      have b2 := B2.1
      have E := B2.sets (l := [.int .i64 2, .int .i64 0, str (nameM s)]) rfl
      have sw : Step (fun j => j = p) u2 h2 u2 (hsets h2 p 0 [.int .i64 2, .int .i64 0, str (nameM s)]) := Step.sets u2 h2 _ rfl (by rw [B2.2.2.2.1]; exact Nat.le_refl _) (by rw [B2.2.1]; exact Nat.le_refl _)
      simp (disch := first | omega | (simp only [e_ssz, e_psz, e_hszs, List.length_cons, List.length_nil]; try omega; done)) only [↓reduceIte, go_sem, B2.2.1, B2.2.2.1, hsets_hsz, E.at]
      exact hK _ _ ((s1.trans0 s2).own sw (fun j e => by have e : j = p := e; omega))
    · simp only [if_neg h4] at hK
      have hmin : (if (s.length : Int) < 255 then (s.length : Int) else 255).toNat = min 255 s.length := by split <;> omega
      have htk : s.take (min 255 s.length) = s.take 255 := by
        by_cases hh : s.length < 255
        · rw [show min 255 s.length = s.length by omega, List.take_length, List.take_of_length_le (by omega)]
        · rw [show min 255 s.length = 255 by omega]
      have E := B.sets (l := [.int .i64 3, .int .i64 0, str (s.take 255)]) rfl
      have sw : Step (fun j => j = p) u1 h1 u1 (hsets h1 p 0 [.int .i64 3, .int .i64 0, str (s.take 255)]) := Step.sets u1 h1 _ rfl (by rw [B.2.2.2.1]; exact Nat.le_refl _) (by rw [B.2.1]; exact Nat.le_refl _)
      simp (disch := first | omega | (simp only [e_ssz, e_psz, e_hszs, List.length_cons, List.length_nil]; try omega; done)) only [↓reduceIte, go_sem, eq_false h3, eq_false h4, B.2.1, B.2.2.1, hsets_hsz]
      rw [hmin, htk]
      refine ⟨by split <;> omega, by split <;> omega, ?_⟩
      simp (disch := first | omega | (simp only [e_ssz, e_psz, e_hszs, List.length_cons, List.length_nil]; try omega; done)) only [go_sem, E.at]
      exact hK _ _ (s1.own sw (fun j e => by have e : j = p := e; omega))
def G_poTerm : Ctr := fun f vs h K _ => (f = 7 ∧ C_poMod vs h K) ∨ (f = 21 ∧ C_poStr varM vs h K) ∨ (f = 22 ∧ C_poCon vs h K)
theorem G_poTerm_ok : GOk Try.prog G_poTerm := by
  rintro f vs h K KP (⟨rfl, hC⟩ | ⟨rfl, hC⟩ | ⟨rfl, hC⟩)
  · exact poMod_ok hC
  · exact poVar_ok hC
  · exact poCon_ok hC
def C_poTerm (vs : List Value) (h : H) (K : Value → H → Prop) : Prop := ∃ (u : U) (t : Term), vs = [.agg (Term.enc t).toArray] ∧ t.2.2.1.length ≤ 9223372036854775807 ∧ ∀ u' h', Step S0 u h u' h' → K (.agg (Term.enc (trmM t)).toArray) h'
theorem poTerm_ok {vs : List Value} {h : H} {K : Value → H → Prop} {KP : List PanicEntry → H → Prop} (hC : C_poTerm vs h K) : HCX Try.prog 12 vs h K KP := by
  obtain ⟨u, t, rfl, hs, hK⟩ := hC
  refine poTerm_H G_poTerm G_poTerm_ok _ ?_
  have s1 := Step.push0 S0 u h #[.int .i64 t.1, .int .i64 t.2.1, str t.2.2.1, .int .i64 t.2.2.2] 43
  have A := Blk.new (u := u) (h := h) [.int .i64 t.1, .int .i64 t.2.1, str t.2.2.1, .int .i64 t.2.2.2] 43
  have s2 := Step.push0 S0 (ub u h.size 0) (h.push (.cells #[.int .i64 t.1, .int .i64 t.2.1, str t.2.2.1, .int .i64 t.2.2.2] 43)) #[.int .i64 0, .int .i64 0, str [], .int .i64 0] 43
  have B : Blk (ub (ub u h.size 0) (h.push (.cells #[.int .i64 t.1, .int .i64 t.2.1, str t.2.2.1, .int .i64 t.2.2.2] 43)).size 0) ((h.push (.cells #[.int .i64 t.1, .int .i64 t.2.1, str t.2.2.1, .int .i64 t.2.2.2] 43)).push (.cells #[.int .i64 0, .int .i64 0, str [], .int .i64 0] 43)) (h.size + 1) [.int .i64 0, .int .i64 0, str [], .int .i64 0] := (Blk.mk (by simp only [e_psz]; omega) (by simp (disch := first | omega | (simp only [e_ssz, e_psz, e_hszs, List.length_cons, List.length_nil]; try omega; done)) only [go_sem]) (by simp (disch := first | omega | (simp only [e_ssz, e_psz, e_hszs, List.length_cons, List.length_nil]; try omega; done)) only [go_sem]) (by repeat (first | (refine ub_at ?_; simp only [e_psz]; done) | apply ub_zero)) (by simp (disch := first | omega | (simp only [e_ssz, e_psz, e_hszs, List.length_cons, List.length_nil]; try omega; done)) only [go_sem]))
  have A := A.step0 s2
  have st := s1.trans0 s2
  simp (disch := first | omega | (simp only [e_ssz, e_psz, e_hszs, List.length_cons, List.length_nil]; try omega; done)) only [↓reduceIte, go_sem, poTerm_S, poTerm_E, Term.enc]
  generalize ub (ub u h.size 0) (h.push (.cells #[.int .i64 t.1, .int .i64 t.2.1, str t.2.2.1, .int .i64 t.2.2.2] 43)).size 0 = u2 at A B st
  generalize (h.push (.cells #[.int .i64 t.1, .int .i64 t.2.1, str t.2.2.1, .int .i64 t.2.2.2] 43)).push (.cells #[.int .i64 0, .int .i64 0, str [], .int .i64 0] 43) = h2 at A B st ⊢
  have a := A.1
  have b := B.1
  refine effS_call (.inl ⟨rfl, t.1, 4, rfl, by decide, by decide, ⟨by simp (disch := first | omega | (simp only [e_ssz, e_psz, e_hszs, List.length_cons, List.length_nil]; try omega; done)) only [go_sem], ?_⟩⟩)
  unfold trmM at hK
  have fin : ∀ (u3 : U) (h3 : H) (l : List Value), Step S0 u2 h2 u3 h3 → l.length = 4 → ∃ u4, Step S0 u h u4 (hsets h3 (h.size + 1) 0 l) ∧ Blk u4 (hsets h3 (h.size + 1) 0 l) (h.size + 1) l := fun u3 h3 l s3 hl => by
    have B3 := B.step0 s3
    have sw : Step (fun j => j = h.size + 1) u3 h3 u3 (hsets h3 (h.size + 1) 0 l) := Step.sets u3 h3 _ rfl (by rw [B3.2.2.2.1]; exact Nat.le_refl _) (by rw [B3.2.1, hl]; exact Nat.le_refl _)
    exact ⟨u3, (st.trans0 s3).own sw (fun j e => by have e : j = h.size + 1 := e; omega), B3.sets hl⟩
  by_cases h4 : t.1 % 4 = 0
  · simp only [if_pos h4] at hK
    simp (disch := first | omega | (simp only [e_ssz, e_psz, e_hszs, List.length_cons, List.length_nil]; try omega; done)) only [↓reduceIte, go_sem, eq_true h4, A.at, A.2.1]
    refine effS_call (.inr (.inl ⟨rfl, u2, t.2.2.1, rfl, hs, fun u3 h3 s3 => ?_⟩))
    have A3 := A.step0 s3
    have B3 := B.step0 s3
    have a3 := A3.1
    have b3 := B3.1
    refine ⟨by simp (disch := first | omega | (simp only [e_ssz, e_psz, e_hszs, List.length_cons, List.length_nil]; try omega; done)) only [↓reduceIte, go_sem, A.at, A3.at, A3.2.1], ?_⟩
    obtain ⟨u4, s4, E⟩ := fin u3 h3 [.int .i64 4, .int .i64 0, str (varM t.2.2.1), .int .i64 t.2.2.2] s3 rfl
    simp (disch := first | omega | (simp only [e_ssz, e_psz, e_hszs, List.length_cons, List.length_nil]; try omega; done)) only [↓reduceIte, go_sem, B3.2.1, B3.2.2.1, hsets_hsz, E.at]
    exact hK _ _ s4
  · simp only [if_neg h4] at hK
    simp (disch := first | omega | (simp only [e_ssz, e_psz, e_hszs, List.length_cons, List.length_nil]; try omega; done)) only [↓reduceIte, go_sem, eq_false h4, A.at, A.2.1]
    refine effS_call (.inr (.inr ⟨rfl, u2, t.1, t.2.1, t.2.2.1, rfl, hs, fun u3 h3 s3 => ⟨by simp (disch := first | omega | (simp only [e_ssz, e_psz, e_hszs, List.length_cons, List.length_nil]; try omega; done)) only [go_sem], ?_⟩⟩))
    obtain ⟨k, hk⟩ : ∃ k, k = conM t.1 t.2.1 t.2.2.1 := ⟨_, rfl⟩
    rw [← hk] at hK ⊢
    have sN := Step.push0 S0 u3 h3 #[.int .i64 k.1, .int .i64 k.2.1, str k.2.2] 63
    have s3N := s3.trans0 sN
    have A3 := A.step0 s3
    have B3 := B.step0 s3N
    have B3' := B.step0 s3
    have a3 := A3.1
    have b3 := B3.1
    have b3' := B3'.1
    have Bw := B3'.sets (l := [.int .i64 k.1, .int .i64 k.2.1, str k.2.2, .int .i64 t.2.2.2]) rfl
    have bw := Bw.1
    have sw : Step (fun j => j = h.size + 1) u3 h3 u3 (hsets h3 (h.size + 1) 0 [.int .i64 k.1, .int .i64 k.2.1, str k.2.2, .int .i64 t.2.2.2]) := Step.sets u3 h3 _ rfl (by rw [B3'.2.2.2.1]; exact Nat.le_refl _) (by rw [B3'.2.1]; exact Nat.le_refl _)
    simp (disch := first | omega | (simp only [e_ssz, e_psz, e_hszs, List.length_cons, List.length_nil]; try omega; done)) only [↓reduceIte, go_sem, A3.at, A3.2.1, B3'.2.1, B3'.2.2.1, hsets_hsz]
    simp (disch := first | omega | (simp only [e_ssz, e_psz, e_hszs, List.length_cons, List.length_nil]; try omega; done)) only [go_sem, Bw.at]
    exact hK _ _ (((st.trans0 s3).own sw (fun j e => by have e : j = h.size + 1 := e; omega)).trans0 (Step.push0 S0 _ _ _ _))
end Go.Proofs.Ytdaldilmjhdpaaa
