/- spelling. -/
import Derived.Test.YtbkpmdgeeolifaaDoorLexSl
namespace Edict
open Go
abbrev PartT := Int × List UInt8 × Int × Int × Int × Int
def sgTok (k op : Int) : Tok := (k, [], 0, op, 0, 0)
def spellR (p : PartT) : Option (List UInt8 × Tok) :=
  if p.1 = 1 then (if wordOKF p.2.1 true then some (p.2.1, (1, p.2.1, 0, 0, 0, 0)) else none)
  else if p.1 = 2 then (if wordOKF p.2.1 false then some (p.2.1, (2, p.2.1, 0, 0, 0, 0)) else none)
  else if p.1 = 3 then some (intSp p.2.2.1 p.2.2.2.2.2, (3, [], p.2.2.1, 0, 0, 0))
  else if p.1 = 4 then (if p.2.1.length ≤ 255 then some (textSp p.2.2.2.2.2 p.2.1, (4, p.2.1, 0, 0, 0, 0)) else none)
  else if p.1 = 5 then some ([40], sgTok 5 0) else if p.1 = 6 then some ([41], sgTok 6 0) else if p.1 = 7 then some ([44], sgTok 7 0) else if p.1 = 8 then some ([46], sgTok 8 0)
  else if p.1 = 9 then some ([58, 45], sgTok 9 0) else if p.1 = 10 then some ([110, 111, 116], sgTok 10 0)
  else if p.1 = 11 then (if p.2.2.2.1 = 1 then some ([61], sgTok 11 1) else if p.2.2.2.1 = 2 then some ([33, 61], sgTok 11 2) else if p.2.2.2.1 = 3 then some ([60], sgTok 11 3) else if p.2.2.2.1 = 4 then some ([60, 61], sgTok 11 4) else if p.2.2.2.1 = 5 then some ([62], sgTok 11 5) else if p.2.2.2.1 = 6 then some ([62, 61], sgTok 11 6) else none)
  else none
theorem ite_cases {α : Type} {q : Prop} [Decidable q] {a b : Option α} {r : α} (h : (if q then a else b) = some r) : (q ∧ a = some r) ∨ (¬ q ∧ b = some r) := by
  by_cases hq : q
  · rw [if_pos hq] at h; exact .inl ⟨hq, h⟩
  · rw [if_neg hq] at h; exact .inr ⟨hq, h⟩
theorem spell_tok {p : PartT} {s : List UInt8} {t : Tok} (hv : -9223372036854775808 ≤ p.2.2.1 ∧ p.2.2.1 ≤ 9223372036854775807) (h : spellR p = some (s, t)) : tokF s 0 = .ok (t.1, t.2.1, t.2.2.1, t.2.2.2.1, 0, (s.length : Int)) ∧ t.1 ≠ 0 ∧ t.2.2.2.2.1 = 0 ∧ t.2.2.2.2.2 = 0 := by
  unfold spellR at h
  rcases ite_cases h with ⟨-, h⟩ | ⟨-, h⟩
  · rcases ite_cases h with ⟨q, h⟩ | ⟨-, h⟩
    · cases h; exact ⟨word_tok q, (show (1 : Int) ≠ 0 by decide), rfl, rfl⟩
    · cases h
  rcases ite_cases h with ⟨-, h⟩ | ⟨-, h⟩
  · rcases ite_cases h with ⟨q, h⟩ | ⟨-, h⟩
    · cases h; exact ⟨word_tok q, (show (2 : Int) ≠ 0 by decide), rfl, rfl⟩
    · cases h
  rcases ite_cases h with ⟨-, h⟩ | ⟨-, h⟩
  · cases h; exact ⟨int_tok hv, (show (3 : Int) ≠ 0 by decide), rfl, rfl⟩
  rcases ite_cases h with ⟨-, h⟩ | ⟨-, h⟩
  · rcases ite_cases h with ⟨q, h⟩ | ⟨-, h⟩
    · cases h; exact ⟨text_tok q, (show (4 : Int) ≠ 0 by decide), rfl, rfl⟩
    · cases h
  rcases ite_cases h with ⟨-, h⟩ | ⟨-, h⟩
  · cases h; exact ⟨by kernel_rfl, (show (5 : Int) ≠ 0 by decide), rfl, rfl⟩
  rcases ite_cases h with ⟨-, h⟩ | ⟨-, h⟩
  · cases h; exact ⟨by kernel_rfl, (show (6 : Int) ≠ 0 by decide), rfl, rfl⟩
  rcases ite_cases h with ⟨-, h⟩ | ⟨-, h⟩
  · cases h; exact ⟨by kernel_rfl, (show (7 : Int) ≠ 0 by decide), rfl, rfl⟩
  rcases ite_cases h with ⟨-, h⟩ | ⟨-, h⟩
  · cases h; exact ⟨by kernel_rfl, (show (8 : Int) ≠ 0 by decide), rfl, rfl⟩
  rcases ite_cases h with ⟨-, h⟩ | ⟨-, h⟩
  · cases h; exact ⟨by kernel_rfl, (show (9 : Int) ≠ 0 by decide), rfl, rfl⟩
  rcases ite_cases h with ⟨-, h⟩ | ⟨-, h⟩
  · cases h; exact ⟨by kernel_rfl, (show (10 : Int) ≠ 0 by decide), rfl, rfl⟩
  rcases ite_cases h with ⟨-, h⟩ | ⟨-, h⟩
  · skip
    rcases ite_cases h with ⟨-, h⟩ | ⟨-, h⟩
    · cases h; exact ⟨by kernel_rfl, (show (11 : Int) ≠ 0 by decide), rfl, rfl⟩
    rcases ite_cases h with ⟨-, h⟩ | ⟨-, h⟩
    · cases h; exact ⟨by kernel_rfl, (show (11 : Int) ≠ 0 by decide), rfl, rfl⟩
    rcases ite_cases h with ⟨-, h⟩ | ⟨-, h⟩
    · cases h; exact ⟨by kernel_rfl, (show (11 : Int) ≠ 0 by decide), rfl, rfl⟩
    rcases ite_cases h with ⟨-, h⟩ | ⟨-, h⟩
    · cases h; exact ⟨by kernel_rfl, (show (11 : Int) ≠ 0 by decide), rfl, rfl⟩
    rcases ite_cases h with ⟨-, h⟩ | ⟨-, h⟩
    · cases h; exact ⟨by kernel_rfl, (show (11 : Int) ≠ 0 by decide), rfl, rfl⟩
    rcases ite_cases h with ⟨-, h⟩ | ⟨-, h⟩
    · cases h; exact ⟨by kernel_rfl, (show (11 : Int) ≠ 0 by decide), rfl, rfl⟩
    cases h
  cases h
end Edict
namespace Go.Proofs.YtbkpmdgeeolifaaDoor
open Go Go.Ev Edict
def C_spelling (vs : List Value) (h : H) (K : Value → H → Prop) : Prop := ∃ (u : U) (p : PartT), vs = [.agg #[.int .i64 p.1, str p.2.1, .int .i64 p.2.2.1, .int .i64 p.2.2.2.1, .int .i64 p.2.2.2.2.1, .int .i64 p.2.2.2.2.2]] ∧ p.2.1.length ≤ 1048576 ∧ (-9223372036854775808 ≤ p.2.2.1 ∧ p.2.2.1 ≤ 9223372036854775807) ∧ PowG u h ∧
  ∀ u' h', Step S0 u h u' h' → match spellR p with | some (s, t) => K (.tuple #[str s, .agg (tokE t).toArray, .bool true]) h' | none => ∀ s t, K (.tuple #[str s, .agg (tokE t).toArray, .bool false]) h'
def G_spelling : Ctr := fun f vs h K _ => (f = 38 ∧ C_wordOK vs h K) ∨ (f = 39 ∧ C_integer vs h K) ∨ (f = 40 ∧ C_written vs h K)
theorem G_spelling_ok : GOk Tryd.prog G_spelling := by
  rintro f vs h K KP (⟨rfl, hC⟩ | ⟨rfl, hC⟩ | ⟨rfl, hC⟩)
  · exact lwWordOK_ok hC
  · exact lwInteger_ok hC
  · exact lwWritten_ok hC
theorem lwSpelling_ok {vs : List Value} {h : H} {K : Value → H → Prop} {KP : List PanicEntry → H → Prop} (hC : C_spelling vs h K) : HCX Tryd.prog 27 vs h K KP := by
  obtain ⟨u, ⟨k, w, n, op, gap, style⟩, rfl, hl, hv, hP, hK⟩ := hC
  simp only at hl hv hK ⊢
  refine lwSpelling_H G_spelling G_spelling_ok _ ?_
  have B1 := Blk.new (u := u) (h := h) [.int .i64 k, str w, .int .i64 n, .int .i64 op, .int .i64 gap, .int .i64 style] 49
  have s1 := Step.push0 S0 u h #[.int .i64 k, str w, .int .i64 n, .int .i64 op, .int .i64 gap, .int .i64 style] 49
  unfold spellR at hK
  simp only at hK
  by_cases k1 : k = 1
  · subst k1
    simp only [if_true] at hK
    simp (disch := first | omega | (simp only [e_ssz, e_psz, e_hszs, List.length_cons, List.length_nil]; try omega; done)) only [↓reduceIte, go_sem, lwSpelling_S, lwSpelling_E]
    refine effS_call (.inl ⟨rfl, w, true, rfl, by omega, ⟨by simp (disch := first | omega | (simp only [e_ssz, e_psz, e_hszs, List.length_cons, List.length_nil]; try omega; done)) only [↓reduceIte, go_sem], ?_⟩⟩)
    cases hw : wordOKF w true with
    | true =>
      simp only [hw, if_true] at hK
      simp (disch := first | omega | (simp only [e_ssz, e_psz, e_hszs, List.length_cons, List.length_nil]; try omega; done)) only [↓reduceIte, go_sem]
      exact hK _ _ (Step.refl _ _ _).pushR.pushR.pushR
    | false =>
      simp only [hw, Bool.false_eq_true, if_false] at hK
      simp (disch := first | omega | (simp only [e_ssz, e_psz, e_hszs, List.length_cons, List.length_nil]; try omega; done)) only [↓reduceIte, go_sem]
      exact hK _ _ (Step.refl _ _ _).pushR.pushR.pushR w (1, w, 0, 0, 0, 0)
  simp only [if_neg k1] at hK
  by_cases k2 : k = 2
  · subst k2
    simp only [if_true] at hK
    simp (disch := first | omega | (simp only [e_ssz, e_psz, e_hszs, List.length_cons, List.length_nil]; try omega; done)) only [↓reduceIte, go_sem, lwSpelling_S, lwSpelling_E]
    refine effS_call (.inl ⟨rfl, w, false, rfl, by omega, ⟨by simp (disch := first | omega | (simp only [e_ssz, e_psz, e_hszs, List.length_cons, List.length_nil]; try omega; done)) only [↓reduceIte, go_sem], ?_⟩⟩)
    cases hw : wordOKF w false with
    | true =>
      simp only [hw, if_true] at hK
      simp (disch := first | omega | (simp only [e_ssz, e_psz, e_hszs, List.length_cons, List.length_nil]; try omega; done)) only [↓reduceIte, go_sem]
      exact hK _ _ (Step.refl _ _ _).pushR.pushR.pushR
    | false =>
      simp only [hw, Bool.false_eq_true, if_false] at hK
      simp (disch := first | omega | (simp only [e_ssz, e_psz, e_hszs, List.length_cons, List.length_nil]; try omega; done)) only [↓reduceIte, go_sem]
      exact hK _ _ (Step.refl _ _ _).pushR.pushR.pushR w (2, w, 0, 0, 0, 0)
  simp only [if_neg k2] at hK
  by_cases k3 : k = 3
  · subst k3
    simp only [if_true] at hK
    obtain ⟨h3, hh3⟩ : ∃ h3, h3 = (((h.push (.cells #[.int .i64 3, str w, .int .i64 n, .int .i64 op, .int .i64 gap, .int .i64 style] 49)).push (.cells #[.int .i64 0, str [], .int .i64 0, .int .i64 0, .int .i64 0, .int .i64 0] 30)).push (.cells #[.int .i64 3, str [], .int .i64 n, .int .i64 0, .int .i64 0, .int .i64 0] 30)) := ⟨_, rfl⟩
    have Bp := (B1.pushR (c := #[.int .i64 0, str [], .int .i64 0, .int .i64 0, .int .i64 0, .int .i64 0]) (t := 30)).pushR (c := #[.int .i64 3, str [], .int .i64 n, .int .i64 0, .int .i64 0, .int .i64 0]) (t := 30)
    have Br := (Blk.new (u := ub u h.size 0) (h := (h.push (.cells #[.int .i64 3, str w, .int .i64 n, .int .i64 op, .int .i64 gap, .int .i64 style] 49))) [.int .i64 0, str [], .int .i64 0, .int .i64 0, .int .i64 0, .int .i64 0] 30).pushR (c := #[.int .i64 3, str [], .int .i64 n, .int .i64 0, .int .i64 0, .int .i64 0]) (t := 30)
    have Bt := Blk.new (u := ub (ub u h.size 0) (h.push (.cells #[.int .i64 3, str w, .int .i64 n, .int .i64 op, .int .i64 gap, .int .i64 style] 49)).size 0) (h := ((h.push (.cells #[.int .i64 3, str w, .int .i64 n, .int .i64 op, .int .i64 gap, .int .i64 style] 49)).push (.cells #[.int .i64 0, str [], .int .i64 0, .int .i64 0, .int .i64 0, .int .i64 0] 30))) [.int .i64 3, str [], .int .i64 n, .int .i64 0, .int .i64 0, .int .i64 0] 30
    have st := ((s1.pushR (c := #[.int .i64 0, str [], .int .i64 0, .int .i64 0, .int .i64 0, .int .i64 0]) (t := 30)).pushR (c := #[.int .i64 3, str [], .int .i64 n, .int .i64 0, .int .i64 0, .int .i64 0]) (t := 30))
    rw [← hh3] at Bp Br Bt st
    simp only [e_psz] at Bp Br Bt st
    obtain ⟨u3, hu3⟩ : ∃ u3, u3 = ub (ub (ub u h.size 0) (h.size + 1) 0) (h.size + 2) 0 := ⟨_, rfl⟩
    rw [← hu3] at Bp Br Bt st
    simp (disch := first | omega | (simp only [e_ssz, e_psz, e_hszs, List.length_cons, List.length_nil]; try omega; done)) only [↓reduceIte, go_sem, lwSpelling_S, lwSpelling_E]
    rw [← hh3]
    refine effS_call (.inr (.inl ⟨rfl, u3, n, style, rfl, hv, hP.mono st.ge, fun u2 h2 s2 => ?_⟩))
    have Bp2 := Bp.step0 s2
    have Br2 := Br.step0 s2
    have Bt2 := Bt.step0 s2
    have Bp21 := Bp2.1; have Br21 := Br2.1; have Bt21 := Bt2.1
    refine ⟨by simp (disch := first | omega | (simp only [e_ssz, e_psz, e_hszs, List.length_cons, List.length_nil]; try omega; done)) only [↓reduceIte, go_sem, Bt.at, Bt2.at, Bt2.2.1, hvs_6], ?_⟩
    have w1 := Br2.sets (l := [.int .i64 3, str [], .int .i64 n, .int .i64 0, .int .i64 0, .int .i64 0]) rfl
    have w2 := (st.trans0 s2).setsR (b := h.size + 1) (o := 0) (l := [.int .i64 3, str [], .int .i64 n, .int .i64 0, .int .i64 0, .int .i64 0]) (.inl (by omega)) (by rw [Br2.2.2.2.1]; exact Nat.zero_le _) (by rw [Br2.2.1]; exact Nat.le_refl _)
    simp (disch := first | omega | (simp only [e_ssz, e_psz, e_hszs, List.length_cons, List.length_nil]; try omega; done)) only [↓reduceIte, go_sem, Br2.2.1, Br2.2.2.1, w1.at, w1.2.1]
    exact hK _ _ w2
  simp only [if_neg k3] at hK
  by_cases k4 : k = 4
  · subst k4
    simp only [if_true] at hK
    obtain ⟨h3, hh3⟩ : ∃ h3, h3 = (((h.push (.cells #[.int .i64 4, str w, .int .i64 n, .int .i64 op, .int .i64 gap, .int .i64 style] 49)).push (.cells #[.int .i64 0, str [], .int .i64 0, .int .i64 0, .int .i64 0, .int .i64 0] 30)).push (.cells #[.int .i64 4, str w, .int .i64 0, .int .i64 0, .int .i64 0, .int .i64 0] 30)) := ⟨_, rfl⟩
    have Bp := (B1.pushR (c := #[.int .i64 0, str [], .int .i64 0, .int .i64 0, .int .i64 0, .int .i64 0]) (t := 30)).pushR (c := #[.int .i64 4, str w, .int .i64 0, .int .i64 0, .int .i64 0, .int .i64 0]) (t := 30)
    have Br := (Blk.new (u := ub u h.size 0) (h := (h.push (.cells #[.int .i64 4, str w, .int .i64 n, .int .i64 op, .int .i64 gap, .int .i64 style] 49))) [.int .i64 0, str [], .int .i64 0, .int .i64 0, .int .i64 0, .int .i64 0] 30).pushR (c := #[.int .i64 4, str w, .int .i64 0, .int .i64 0, .int .i64 0, .int .i64 0]) (t := 30)
    have Bt := Blk.new (u := ub (ub u h.size 0) (h.push (.cells #[.int .i64 4, str w, .int .i64 n, .int .i64 op, .int .i64 gap, .int .i64 style] 49)).size 0) (h := ((h.push (.cells #[.int .i64 4, str w, .int .i64 n, .int .i64 op, .int .i64 gap, .int .i64 style] 49)).push (.cells #[.int .i64 0, str [], .int .i64 0, .int .i64 0, .int .i64 0, .int .i64 0] 30))) [.int .i64 4, str w, .int .i64 0, .int .i64 0, .int .i64 0, .int .i64 0] 30
    have st := ((s1.pushR (c := #[.int .i64 0, str [], .int .i64 0, .int .i64 0, .int .i64 0, .int .i64 0]) (t := 30)).pushR (c := #[.int .i64 4, str w, .int .i64 0, .int .i64 0, .int .i64 0, .int .i64 0]) (t := 30))
    rw [← hh3] at Bp Br Bt st
    simp only [e_psz] at Bp Br Bt st
    obtain ⟨u3, hu3⟩ : ∃ u3, u3 = ub (ub (ub u h.size 0) (h.size + 1) 0) (h.size + 2) 0 := ⟨_, rfl⟩
    rw [← hu3] at Bp Br Bt st
    simp (disch := first | omega | (simp only [e_ssz, e_psz, e_hszs, List.length_cons, List.length_nil]; try omega; done)) only [↓reduceIte, go_sem, lwSpelling_S, lwSpelling_E]
    rw [← hh3]
    refine effS_call (.inr (.inr ⟨rfl, u3, w, style, rfl, hl, fun u2 h2 s2 => ?_⟩))
    have Bp2 := Bp.step0 s2
    have Br2 := Br.step0 s2
    have Bt2 := Bt.step0 s2
    have Bp21 := Bp2.1; have Br21 := Br2.1; have Bt21 := Bt2.1
    refine ⟨by simp (disch := first | omega | (simp only [e_ssz, e_psz, e_hszs, List.length_cons, List.length_nil]; try omega; done)) only [↓reduceIte, go_sem, Bp.at, Bp2.at, Bp2.2.1, Bt.at, Bt2.at, Bt2.2.1, hvs_6], ?_⟩
    have w1 := Br2.sets (l := [.int .i64 4, str w, .int .i64 0, .int .i64 0, .int .i64 0, .int .i64 0]) rfl
    have w2 := (st.trans0 s2).setsR (b := h.size + 1) (o := 0) (l := [.int .i64 4, str w, .int .i64 0, .int .i64 0, .int .i64 0, .int .i64 0]) (.inl (by omega)) (by rw [Br2.2.2.2.1]; exact Nat.zero_le _) (by rw [Br2.2.1]; exact Nat.le_refl _)
    have w3 := Step.sets (S := fun b => b = h.size + 1) u2 h2 (b := h.size + 1) (o := 0) [.int .i64 4, str w, .int .i64 0, .int .i64 0, .int .i64 0, .int .i64 0] rfl (by rw [Br2.2.2.2.1]; exact Nat.zero_le _) (by rw [Br2.2.1]; exact Nat.le_refl _)
    have Bp3 := Bp2.step w3 (by omega)
    by_cases hw : w.length ≤ 255
    · simp only [if_pos hw] at hK
      simp (disch := first | omega | (simp only [e_ssz, e_psz, e_hszs, List.length_cons, List.length_nil]; try omega; done)) only [↓reduceIte, go_sem, Bp3.at, Bp3.2.1, Bp2.at, Br2.2.1, Br2.2.2.1, w1.at, w1.2.1, eq_true (show ((w.length : Nat) : Int) ≤ 255 by omega)]
      exact hK _ _ w2
    · simp only [if_neg hw] at hK
      simp (disch := first | omega | (simp only [e_ssz, e_psz, e_hszs, List.length_cons, List.length_nil]; try omega; done)) only [↓reduceIte, go_sem, Bp3.at, Bp3.2.1, Bp2.at, Br2.2.1, Br2.2.2.1, w1.at, w1.2.1, eq_false (show ¬ ((w.length : Nat) : Int) ≤ 255 by omega)]
      exact hK _ _ w2 _ (4, w, 0, 0, 0, 0)
  simp only [if_neg k4] at hK
  by_cases k5 : k = 5
  · subst k5
    simp only [if_true] at hK
    simp (disch := first | omega | (simp only [e_ssz, e_psz, e_hszs, List.length_cons, List.length_nil]; try omega; done)) only [↓reduceIte, go_sem, lwSpelling_S, lwSpelling_E]
    exact hK _ _ (Step.refl _ _ _).pushR.pushR.pushR
  simp only [if_neg k5] at hK
  by_cases k6 : k = 6
  · subst k6
    simp only [if_true] at hK
    simp (disch := first | omega | (simp only [e_ssz, e_psz, e_hszs, List.length_cons, List.length_nil]; try omega; done)) only [↓reduceIte, go_sem, lwSpelling_S, lwSpelling_E]
    exact hK _ _ (Step.refl _ _ _).pushR.pushR.pushR
  simp only [if_neg k6] at hK
  by_cases k7 : k = 7
  · subst k7
    simp only [if_true] at hK
    simp (disch := first | omega | (simp only [e_ssz, e_psz, e_hszs, List.length_cons, List.length_nil]; try omega; done)) only [↓reduceIte, go_sem, lwSpelling_S, lwSpelling_E]
    exact hK _ _ (Step.refl _ _ _).pushR.pushR.pushR
  simp only [if_neg k7] at hK
  by_cases k8 : k = 8
  · subst k8
    simp only [if_true] at hK
    simp (disch := first | omega | (simp only [e_ssz, e_psz, e_hszs, List.length_cons, List.length_nil]; try omega; done)) only [↓reduceIte, go_sem, lwSpelling_S, lwSpelling_E]
    exact hK _ _ (Step.refl _ _ _).pushR.pushR.pushR
  simp only [if_neg k8] at hK
  by_cases k9 : k = 9
  · subst k9
    simp only [if_true] at hK
    simp (disch := first | omega | (simp only [e_ssz, e_psz, e_hszs, List.length_cons, List.length_nil]; try omega; done)) only [↓reduceIte, go_sem, lwSpelling_S, lwSpelling_E]
    exact hK _ _ (Step.refl _ _ _).pushR.pushR.pushR
  simp only [if_neg k9] at hK
  by_cases k10 : k = 10
  · subst k10
    simp only [if_true] at hK
    simp (disch := first | omega | (simp only [e_ssz, e_psz, e_hszs, List.length_cons, List.length_nil]; try omega; done)) only [↓reduceIte, go_sem, lwSpelling_S, lwSpelling_E]
    exact hK _ _ (Step.refl _ _ _).pushR.pushR.pushR
  simp only [if_neg k10] at hK
  by_cases k11 : k = 11
  · subst k11
    simp only [if_true] at hK
    by_cases o1 : op = 1
    · subst o1
      simp only [if_true] at hK
      simp (disch := first | omega | (simp only [e_ssz, e_psz, e_hszs, List.length_cons, List.length_nil]; try omega; done)) only [↓reduceIte, go_sem, lwSpelling_S, lwSpelling_E]
      exact hK _ _ (Step.refl _ _ _).pushR.pushR.pushR
    simp only [if_neg o1] at hK
    by_cases o2 : op = 2
    · subst o2
      simp only [if_true] at hK
      simp (disch := first | omega | (simp only [e_ssz, e_psz, e_hszs, List.length_cons, List.length_nil]; try omega; done)) only [↓reduceIte, go_sem, lwSpelling_S, lwSpelling_E]
      exact hK _ _ (Step.refl _ _ _).pushR.pushR.pushR
    simp only [if_neg o2] at hK
    by_cases o3 : op = 3
    · subst o3
      simp only [if_true] at hK
      simp (disch := first | omega | (simp only [e_ssz, e_psz, e_hszs, List.length_cons, List.length_nil]; try omega; done)) only [↓reduceIte, go_sem, lwSpelling_S, lwSpelling_E]
      exact hK _ _ (Step.refl _ _ _).pushR.pushR.pushR
    simp only [if_neg o3] at hK
    by_cases o4 : op = 4
    · subst o4
      simp only [if_true] at hK
      simp (disch := first | omega | (simp only [e_ssz, e_psz, e_hszs, List.length_cons, List.length_nil]; try omega; done)) only [↓reduceIte, go_sem, lwSpelling_S, lwSpelling_E]
      exact hK _ _ (Step.refl _ _ _).pushR.pushR.pushR
    simp only [if_neg o4] at hK
    by_cases o5 : op = 5
    · subst o5
      simp only [if_true] at hK
      simp (disch := first | omega | (simp only [e_ssz, e_psz, e_hszs, List.length_cons, List.length_nil]; try omega; done)) only [↓reduceIte, go_sem, lwSpelling_S, lwSpelling_E]
      exact hK _ _ (Step.refl _ _ _).pushR.pushR.pushR
    simp only [if_neg o5] at hK
    by_cases o6 : op = 6
    · subst o6
      simp only [if_true] at hK
      simp (disch := first | omega | (simp only [e_ssz, e_psz, e_hszs, List.length_cons, List.length_nil]; try omega; done)) only [↓reduceIte, go_sem, lwSpelling_S, lwSpelling_E]
      exact hK _ _ (Step.refl _ _ _).pushR.pushR.pushR
    simp only [if_neg o6] at hK
    simp (disch := first | omega | (simp only [e_ssz, e_psz, e_hszs, List.length_cons, List.length_nil]; try omega; done)) only [↓reduceIte, go_sem, lwSpelling_S, lwSpelling_E, eq_false o1, eq_false o2, eq_false o3, eq_false o4, eq_false o5, eq_false o6]
    exact hK _ _ (Step.refl _ _ _).pushR.pushR.pushR [] (11, [], 0, op, 0, 0)
  simp only [if_neg k11] at hK
  simp (disch := first | omega | (simp only [e_ssz, e_psz, e_hszs, List.length_cons, List.length_nil]; try omega; done)) only [↓reduceIte, go_sem, lwSpelling_S, lwSpelling_E, eq_false k1, eq_false k2, eq_false k3, eq_false k4, eq_false k5, eq_false k6, eq_false k7, eq_false k8, eq_false k9, eq_false k10, eq_false k11]
  exact hK _ _ (Step.refl _ _ _).pushR.pushR.pushR [] (k, [], 0, 0, 0, 0)
end Go.Proofs.YtbkpmdgeeolifaaDoor
