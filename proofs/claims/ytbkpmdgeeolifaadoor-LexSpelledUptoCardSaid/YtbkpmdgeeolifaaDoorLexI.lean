/- A text put together token by token. -/
import Derived.Test.YtbkpmdgeeolifaaDoorLexJ
import Derived.KernelRfl
namespace Edict
open Go
/-- What stands between. -/
def betF (last : Nat) (s0 : Nat) (gap : Int) : List UInt8 :=
  if gap = 1 then [32] else if gap = 2 then [37, 32, 34, 32, 47, 42, 32, 110, 111, 116, 13, 10] else if gap = 3 then [47, 42, 32, 37, 32, 47, 42, 32, 41, 32, 42, 47, 32, 34, 32, 42, 47] else if gap = 4 then [10]
  else if wdB last = true ∧ wdB s0 = true then [32] else if (last = 60 ∨ last = 62) ∧ s0 = 61 then [9] else []
def lastE (k : Nat) (l : List Tok) : Nat := match l.getLast? with | some t => eN t | none => k
theorem lastE_cons (k : Nat) (t : Tok) (l : List Tok) : lastE k (t :: l) = lastE (eN t) l := by
  unfold lastE
  cases l with
  | nil => rfl
  | cons a l =>
    rw [List.getLast?_cons_cons]
    cases h : (a :: l).getLast? with
    | none => simp at h
    | some _ => rfl
/-- Tokens stay where they are when more is laid behind the text, if the last byte and the next do not run together. -/
theorem put_keep {s x : List UInt8} (hx : ∀ i, i < s.length → bat x i = bat s i) (hl : s.length < x.length) (hc : (wdB (bat x (s.length - 1)) = true → wdB (bat x s.length) = false) ∧ (bat x (s.length - 1) = 60 ∨ bat x (s.length - 1) = 62 → bat x s.length ≠ 61)) :
    ∀ {l : List Tok} {k : Nat}, k ≤ s.length → (∀ t ∈ l, t.1 ≠ 0) → scanK s k = (l ++ [endT s.length], 0, 0) → lastE k l ≤ s.length ∧ scanK x k = (l ++ (scanK x (lastE k l)).1, (scanK x (lastE k l)).2)
  | [], k, hk, _, _ => ⟨hk, rfl⟩
  | t :: l, k, hk, hr, h => by
    obtain ⟨h1, h2⟩ := scan_cons hk h
    have ht := hr t (by simp)
    obtain ⟨h2, h3⟩ : t.1 ≠ 0 ∧ scanK s t.2.2.2.2.2.toNat = (l ++ [endT s.length], 0, 0) := h2.resolve_left (fun q => ht q.1)
    obtain ⟨c, v, n, p, o, e, rfl, q1, q2, q3, q4⟩ := next_ok hk h1
    simp only at h2
    rw [Int.toNat_natCast] at h3
    have hoe := q4 h2
    obtain ⟨n1, n2⟩ := next_at hk h1
    have hle := gap_le hk
    rw [n1] at hle
    have hag : Ag s x k k (e - k) := ⟨by omega, by omega, fun i hi => (hx _ (by omega)).symm⟩
    have hag1 : Ag s x k k (o - k) := by have := hag.sub (i := 0) (m := o - k) (by omega); simpa using this
    have hag2 : Ag s x o o (e - o) := ⟨by omega, by omega, fun i hi => (hx _ (by omega)).symm⟩
    have hf : Fol2 s x o o (e - o) := by
      unfold Fol2
      rw [show o + (e - o) = e by omega]
      by_cases he : e = s.length
      · rw [he]; exact .inr (.inl hc)
      · exact .inr (.inr ⟨by omega, by omega, hx e (by omega)⟩)
    have hg := gap_skip n1 hk hag1 (.inl (show o < s.length by omega))
    rw [show k + (o - k) = o by omega] at hg
    have hto := tok_loc2 n2 h2 hag2 hf
    rw [show o + (e - o) = e by omega] at hto
    have hn : nextF x k = .ok (c, v, n, p, (o : Int), (e : Int)) := by unfold nextF; rw [hg, gap_tok (by omega) hto]; exact hto
    have hee : eN (c, v, n, p, (o : Int), (e : Int)) = e := by simp [eN]
    obtain ⟨r1, r2⟩ := put_keep hx hl hc (l := l) (k := e) q2 (fun t ht => hr t (List.mem_cons_of_mem _ ht)) h3
    rw [lastE_cons, hee]
    refine ⟨r1, ?_⟩
    rw [scanK_on (by omega) hn h2]
    simp only [Int.toNat_natCast]
    rw [r2]
    rfl
theorem gap_fixed {g x : List UInt8} {b : Nat} (hg : gapF (g ++ [40]) 0 = (g.length, true)) (hx : ∀ i, i < g.length → bat x (b + i) = bat g i) (hl : b + g.length ≤ x.length) : gapF x b = gapF x (b + g.length) := by
  have ha : Ag (g ++ [40]) x 0 b (g.length - 0) := ⟨by simp, by omega, fun i hi => by rw [Nat.zero_add, bat_app (by omega), hx i (by omega)]⟩
  have := gap_skip hg (Nat.zero_le _) ha (.inl (by simp))
  simpa using this
theorem betF_gap (last s0 : Nat) (gap : Int) : gapF (betF last s0 gap ++ [40]) 0 = ((betF last s0 gap).length, true) := by
  unfold betF
  repeat' split
  all_goals kernel_rfl
/-- What follows the last byte does no harm. -/
theorem betF_fol {last s0 : Nat} {gap : Int} {g : List UInt8} (hg : g = betF last s0 gap) {nx : Nat} (hnx : nx = if g = [] then s0 else bat g 0) : (wdB last = true → wdB nx = false) ∧ (last = 60 ∨ last = 62 → nx ≠ 61) := by
  unfold betF at hg
  split at hg
  · subst hg; rw [if_neg (by simp)] at hnx; subst hnx; exact ⟨fun _ => by decide, fun _ => by decide⟩
  split at hg
  · subst hg; rw [if_neg (by simp)] at hnx; subst hnx; exact ⟨fun _ => by decide, fun _ => by decide⟩
  split at hg
  · subst hg; rw [if_neg (by simp)] at hnx; subst hnx; exact ⟨fun _ => by decide, fun _ => by decide⟩
  split at hg
  · subst hg; rw [if_neg (by simp)] at hnx; subst hnx; exact ⟨fun _ => by decide, fun _ => by decide⟩
  split at hg
  · subst hg; rw [if_neg (by simp)] at hnx; subst hnx; exact ⟨fun _ => by decide, fun _ => by decide⟩
  rename_i h5
  split at hg
  · subst hg; rw [if_neg (by simp)] at hnx; subst hnx; exact ⟨fun _ => by decide, fun _ => by decide⟩
  rename_i h6
  subst hg
  rw [if_pos rfl] at hnx
  subst hnx
  refine ⟨fun q => ?_, fun q q' => h6 ⟨q, q'⟩⟩
  cases hw : wdB nx with
  | false => rfl
  | true => exact absurd ⟨q, hw⟩ h5
theorem bat_0 {s t : List UInt8} (h : s ≠ []) : bat (s ++ t) 0 = bat s 0 := bat_app (List.length_pos_iff.2 h)
/-- One token more. -/
theorem put_one {T s : List UInt8} {W : List Tok} {c : Int} {v : List UInt8} {n p : Int} {gap : Int} (hT : scanK T 0 = (W ++ [endT T.length], 0, 0)) (hW : ∀ t ∈ W, t.1 ≠ 0) (hlast : lastE 0 W = T.length) (hT0 : 0 < T.length)
    (hs : tokF s 0 = .ok (c, v, n, p, 0, (s.length : Int))) (hc : c ≠ 0) :
    scanK (T ++ betF (bat T (T.length - 1)) (bat s 0) gap ++ s) 0 = (W ++ [(c, v, n, p, ((T.length + (betF (bat T (T.length - 1)) (bat s 0) gap).length : Nat) : Int), ((T ++ betF (bat T (T.length - 1)) (bat s 0) gap ++ s).length : Int))] ++ [endT (T ++ betF (bat T (T.length - 1)) (bat s 0) gap ++ s).length], 0, 0) := by
  have hs0 : 0 < s.length := by
    apply Decidable.byContradiction; intro q
    unfold tokF at hs
    rw [if_pos (by omega)] at hs
    simp only [TR.ok.injEq, Prod.mk.injEq] at hs
    exact hc hs.1.symm
  obtain ⟨g, hg⟩ : ∃ g, g = betF (bat T (T.length - 1)) (bat s 0) gap := ⟨_, rfl⟩
  rw [← hg]
  obtain ⟨x, hx⟩ : ∃ x, x = T ++ g ++ s := ⟨_, rfl⟩
  rw [← hx]
  have hxl : x.length = T.length + g.length + s.length := by rw [hx]; simp; omega
  have hb1 : ∀ i, i < T.length → bat x i = bat T i := fun i hi => by rw [hx, List.append_assoc, bat_app hi]
  have hb2 : ∀ i, i < g.length → bat x (T.length + i) = bat g i := fun i hi => by rw [hx, List.append_assoc, bat_appR, bat_app hi]
  have hb3 : ∀ i, bat x (T.length + g.length + i) = bat s i := fun i => by
    have := bat_appR (s := T ++ g) (t := s) (i := i)
    rw [List.length_append] at this
    rw [hx, this]
  have hnx : bat x T.length = if g = [] then bat s 0 else bat g 0 := by
    by_cases q : g = []
    · rw [if_pos q]
      have := hb3 0
      rw [q] at this; simpa using this
    · rw [if_neg q]
      have := hb2 0 (List.length_pos_iff.2 q)
      simpa using this
  have hf := betF_fol hg (nx := bat x T.length) hnx
  rw [← hb1 (T.length - 1) (by omega)] at hf
  obtain ⟨k1, k2⟩ := put_keep hb1 (by omega) hf (Nat.zero_le _) hW hT
  rw [hlast] at k2
  have hgg : gapF (g ++ [40]) 0 = (g.length, true) := by rw [hg]; exact betF_gap _ _ _
  have hga := gap_fixed (x := x) (b := T.length) hgg (fun i hi => hb2 i hi) (by omega)
  have hto := tok_loc2 (t := x) (b := T.length + g.length) (e := s.length) (a := 0) hs hc ⟨by omega, by omega, fun i hi => by rw [Nat.zero_add, hb3]⟩ (.inl (by omega))
  rw [Nat.sub_zero, show T.length + g.length + s.length = x.length by omega] at hto
  have hn : nextF x T.length = .ok (c, v, n, p, ((T.length + g.length : Nat) : Int), (x.length : Int)) := by
    unfold nextF
    rw [hga, gap_tok (by omega) hto]
    exact hto
  rw [k2, scanK_on (by omega) hn hc]
  simp only [Int.toNat_natCast]
  rw [next_end (gap_end (Nat.le_refl _)), List.append_assoc]
  rfl
end Edict
