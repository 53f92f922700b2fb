/- The laws of core: numbers, names, terms. -/
import Derived.Test.YtkobamedfbgjbaaKlS
import Derived.Test.YtkobamedfbgjbaaKrP
import Derived.Test.YtkobamedfbgjbaaKcB
namespace Go.Ev
open Go Rep
theorem effS_b2sL {G : Ctr} {d : Option Nat} {st : Stab} {r : List St} {K : Env → H → Prop} {KP : List PanicEntry → H → Prop} {σ : Env} {h : H} {b n c : Nat} (l : List UInt8) (hn : n = l.length) (hz : l.length ≤ hsz h b) (hv : hvs h b 0 l.length = l.map byteV)
    (hK : stabP st σ h h ∧ wpSts G r K KP (updo σ d (str l)) h) : effS G .b2s d st r K KP [.slice (some ⟨b, 0, none⟩) n c] σ h := by
  subst hn
  exact ⟨by rw [Nat.zero_add]; exact hz, l, hv, hK⟩
theorem byteV_of {k : Nat} (h : k < 256) : byteV (UInt8.ofNat k) = .int .u8 (k : Int) := by
  show Value.int .u8 ((UInt8.ofNat k).toNat : Int) = _
  rw [Edict.ofNat_small h]
theorem u8_wrap {n : Int} (h0 : 0 ≤ n) (h1 : n < 256) : IntKind.u8.wrap n = n := by
  show n % 256 = n
  omega
end Go.Ev
namespace Edict
theorem sum_take {s : List UInt8} {i : Nat} {b : UInt8} (h : s[i]? = some b) : ((s.take (i + 1)).map UInt8.toNat).sum = ((s.take i).map UInt8.toNat).sum + b.toNat := by
  rw [List.take_add_one, h, Option.toList_some, List.map_append, List.sum_append]; simp
theorem sum_le : ∀ s : List UInt8, (s.map UInt8.toNat).sum ≤ s.length * 255
  | [] => Nat.le_refl _
  | b :: s => by
    have h1 := sum_le s
    have h2 := b.toNat_lt
    simp only [List.map_cons, List.sum_cons, List.length_cons, Nat.succ_mul]; omega
end Edict
namespace Go.Proofs.Ytkobamedfbgjbaa
open Go Go.Ev Edict
def SizB (s : List UInt8) : Prop := s.length ≤ 140737488355328
def C_klMod (vs : List Value) (h : H) (K : Value → H → Prop) : Prop := ∃ a n : Int, vs = [.int .i64 a, .int .i64 n] ∧ 0 < n ∧ n ≤ 1000000 ∧ K (.int .i64 (a % n)) h
theorem klMod_ok {vs : List Value} {h : H} {K : Value → H → Prop} {KP : List PanicEntry → H → Prop} (hC : C_klMod vs h K) : HCX Try.prog 16 vs h K KP := by
  obtain ⟨a, n, rfl, h0, h1, hK⟩ := hC
  refine klMod_H (fun _ _ _ _ _ => False) (fun _ _ _ _ _ h => h.elim) _ _ ?_
  have h2 := Int.tmod_lt_of_pos a h0
  have hn := Int.natAbs_of_nonneg (Int.le_of_lt h0)
  have h3 : -n < a.tmod n := by
    have := Int.lt_tmod_of_pos a h0
    exact this
  have he := Int.tmod_add_mul_tdiv a n
  by_cases hneg : a.tmod n < 0
  · have e : a % n = a.tmod n + n := by
      have h4 : a % n = (a.tmod n + n * a.tdiv n) % n := by rw [he]
      rw [h4, Int.add_mul_emod_self_left, ← Int.add_emod_right, Int.emod_eq_of_lt (by omega) (by omega)]
    rw [e] at hK
    simp (disch := first | omega | (simp only [zz]; try omega; done)) only [↓reduceIte, go_sem, klMod_S, klMod_E, eq_true hneg]
    exact ⟨by omega, hK⟩
  · have e : a % n = a.tmod n := by
      have h4 : a % n = (a.tmod n + n * a.tdiv n) % n := by rw [he]
      rw [h4, Int.add_mul_emod_self_left, Int.emod_eq_of_lt (by omega) (by omega)]
    rw [e] at hK
    simp (disch := first | omega | (simp only [zz]; try omega; done)) only [↓reduceIte, go_sem, klMod_S, klMod_E, eq_false hneg]
    exact ⟨by omega, hK⟩
def C_size (vs : List Value) (h : H) (K : Value → H → Prop) : Prop := ∃ s : List UInt8, vs = [str s] ∧ SizB s ∧ K (.int .i64 (sizeF s : Nat)) h
theorem klSize_ok {vs : List Value} {h : H} {K : Value → H → Prop} {KP : List PanicEntry → H → Prop} (hC : C_size vs h K) : HCX Try.prog 62 vs h K KP := by
  obtain ⟨s, rfl, hs, hK⟩ := hC
  have hs : s.length ≤ 140737488355328 := hs
  have hsum := sum_le s
  refine klSize_H (fun _ _ _ _ _ => False) (fun _ _ _ _ _ h => h.elim) _ ?_
  simp (disch := first | omega | (simp only [zz]; try omega; done)) only [↓reduceIte, go_sem, klSize_S, klSize_E]
  obtain ⟨I, hI⟩ : ∃ I : Nat → Env → H → Prop, I = fun i σ h' => h' = h ∧ σ 0 = str s ∧ σ 3 = .int .i64 ((s.length + ((s.take i).map UInt8.toNat).sum : Nat)) ∧ σ 4 = .int .i64 i ∧ i ≤ s.length := ⟨_, rfl⟩
  refine wpS_loop I (fun i => s.length - i) 0 (by rw [hI]; exact ⟨rfl, by simp [upd], by simp [upd], by simp [upd], Nat.zero_le _⟩) ?_
  intro i σ h' hy
  rw [hI] at hy
  obtain ⟨rfl, e0, e3, e4, hi⟩ := hy
  by_cases hlt : i < s.length
  · obtain ⟨b, hb⟩ : ∃ b, s[i]? = some b := ⟨s[i], by simp [hlt]⟩
    have hsi := sum_take hb
    have hbl := b.toNat_lt
    have hle := sum_le (s.take i)
    have hlt2 : (s.take i).length ≤ s.length := by rw [List.length_take]; exact Nat.min_le_right _ _
    have hgd : s.getD i 0 = b := by rw [List.getD_eq_getElem?_getD, hb]; rfl
    have hw : IntKind.i64.wrap (b.toNat : Int) = b.toNat := wr64 (by omega) (by omega)
    simp (disch := first | omega | (simp only [zz]; try omega; done)) only [↓reduceIte, go_sem, klSize_L1, e0, e3, e4, eq_true (show (i : Int) < s.length by omega), hgd, hw]
    refine ⟨i + 1, ?_, by omega⟩
    rw [hI]
    refine ⟨rfl, by simp [upd, e0], ?_, by simp [upd], hlt⟩
    simp only [upd]
    rw [hsi]
    simp; omega
  · obtain rfl : i = s.length := by omega
    rw [List.take_length] at e3
    simp (disch := first | omega | (simp only [zz]; try omega; done)) only [↓reduceIte, go_sem, klSize_L1, e0, e3, e4]
    exact hK
def C_klPred (vs : List Value) (h : H) (K : Value → H → Prop) : Prop := ∃ (u : U) (s : List UInt8) (n : Nat), vs = [str s, .int .i64 n] ∧ SizB s ∧ n ≤ 8 ∧ ∀ u' h', Step S0 u h u' h' → K (str (predF s n)) h'
def G_klSize : Ctr := fun f vs h K _ => f = 62 ∧ C_size vs h K
theorem G_klSize_ok : GOk Try.prog G_klSize := by
  rintro f vs h K KP ⟨rfl, hC⟩; exact klSize_ok hC
theorem klPred_ok {vs : List Value} {h : H} {K : Value → H → Prop} {KP : List PanicEntry → H → Prop} (hC : C_klPred vs h K) : HCX Try.prog 46 vs h K KP := by
  obtain ⟨u, s, n, rfl, hs, hn, hK⟩ := hC
  refine klPred_H G_klSize G_klSize_ok _ _ ?_
  simp (disch := first | omega | (simp only [zz]; try omega; done)) only [↓reduceIte, go_sem, klPred_S, klPred_E]
  refine effS_call ⟨rfl, s, rfl, hs, ⟨by simp (disch := first | omega | (simp only [zz]; try omega; done)) only [go_sem], ?_⟩⟩
  have hq : ((sizeF s : Nat) : Int).tmod 13 = ((sizeF s % 13 : Nat) : Int) := by rw [Int.tmod_eq_emod_of_nonneg (by omega)]; omega
  have hw : IntKind.u8.wrap ((sizeF s % 13 : Nat) : Int) = ((sizeF s % 13 : Nat) : Int) := u8_wrap (by omega) (by omega)
  have hw2 : IntKind.u8.wrap (97 + ((sizeF s % 13 : Nat) : Int)) = 97 + ((sizeF s % 13 : Nat) : Int) := u8_wrap (by omega) (by omega)
  have hw3 : IntKind.u8.wrap (n : Int) = n := u8_wrap (by omega) (by omega)
  have hw4 : IntKind.u8.wrap (48 + (n : Int)) = 48 + (n : Int) := u8_wrap (by omega) (by omega)
  simp (disch := first | omega | (simp only [zz]; try omega; done)) only [↓reduceIte, go_sem, hq, hw, hw2, hw3, hw4]
  refine effS_b2sL (predF s n) rfl (by simp (disch := first | omega | (simp only [zz]; try omega; done)) only [go_sem, predF]) ?_ ⟨by simp (disch := first | omega | (simp only [zz]; try omega; done)) only [go_sem], ?_⟩
  · unfold predF
    simp only [List.length_cons, List.length_nil, List.map_cons, List.map_nil]
    rw [byteV_of (by omega), byteV_of (by omega)]
    simp (disch := first | omega | (simp only [zz]; try omega; done)) only [go_sem]
    exact ⟨by simp, by simp⟩
  · simp (disch := first | omega | (simp only [zz]; try omega; done)) only [↓reduceIte, go_sem]
    exact hK _ _ (Step.push0 S0 u h _ _)
def C_termT (f : Term → Term) (vs : List Value) (h : H) (K : Value → H → Prop) : Prop := ∃ (u : U) (t : Term), vs = [.agg (Term.enc t).toArray] ∧ SizB t.2.2.1 ∧ ∀ u' h', Step S0 u h u' h' → K (.agg (Term.enc (f t)).toArray) h'
def G_klPlain : Ctr := fun f vs h K _ => (f = 16 ∧ C_klMod vs h K) ∨ (f = 62 ∧ C_size vs h K)
theorem G_klPlain_ok : GOk Try.prog G_klPlain := by
  rintro f vs h K KP (⟨rfl, hC⟩ | ⟨rfl, hC⟩)
  · exact klMod_ok hC
  · exact klSize_ok hC
theorem klPlain_ok {vs : List Value} {h : H} {K : Value → H → Prop} {KP : List PanicEntry → H → Prop} (hC : C_termT plainF vs h K) : HCX Try.prog 61 vs h K KP := by
  obtain ⟨u, t, rfl, hs, hK⟩ := hC
  refine klPlain_H G_klPlain G_klPlain_ok _ ?_
  simp (disch := first | omega | (simp only [zz]; try omega; done)) only [↓reduceIte, go_sem, klPlain_S, klPlain_E, Term.enc]
  refine effS_call (.inl ⟨rfl, t.1, 3, rfl, by decide, by decide, ⟨by simp (disch := first | omega | (simp only [zz]; try omega; done)) only [go_sem], ?_⟩⟩)
  have hs' : t.2.2.1.length ≤ 140737488355328 := hs
  by_cases h0 : t.1 % 3 = 0
  · have e : plainF t = (1, t.2.1, [], t.2.2.2) := by unfold plainF; rw [if_pos h0]
    rw [e] at hK
    simp (disch := first | omega | (simp only [zz]; try omega; done)) only [↓reduceIte, go_sem, eq_true h0]
    exact hK _ _ (by repeat (first | exact Step.refl _ _ _ | assumption | apply Step.pushR))
  · by_cases h1 : t.1 % 3 = 1
    · have e : plainF t = (2, 0, [UInt8.ofNat (97 + sizeF t.2.2.1 % 26)], t.2.2.2) := by unfold plainF; rw [if_neg h0, if_pos h1]
      rw [e] at hK
      simp (disch := first | omega | (simp only [zz]; try omega; done)) only [↓reduceIte, go_sem, eq_true h1, eq_false h0]
      refine effS_call (.inr ⟨rfl, t.2.2.1, rfl, hs, ⟨by simp (disch := first | omega | (simp only [zz]; try omega; done)) only [↓reduceIte, go_sem], ?_⟩⟩)
      have hq : ((sizeF t.2.2.1 : Nat) : Int).tmod 26 = ((sizeF t.2.2.1 % 26 : Nat) : Int) := by rw [Int.tmod_eq_emod_of_nonneg (by omega)]; omega
      have hw : IntKind.u8.wrap ((sizeF t.2.2.1 % 26 : Nat) : Int) = ((sizeF t.2.2.1 % 26 : Nat) : Int) := u8_wrap (by omega) (by omega)
      have hw2 : IntKind.u8.wrap (97 + ((sizeF t.2.2.1 % 26 : Nat) : Int)) = 97 + ((sizeF t.2.2.1 % 26 : Nat) : Int) := u8_wrap (by omega) (by omega)
      simp (disch := first | omega | (simp only [zz]; try omega; done)) only [↓reduceIte, go_sem, hq, hw, hw2]
      refine effS_b2sL [UInt8.ofNat (97 + sizeF t.2.2.1 % 26)] rfl (by simp (disch := first | omega | (simp only [zz]; try omega; done)) only [go_sem]) ?_ ⟨by simp (disch := first | omega | (simp only [zz]; try omega; done)) only [↓reduceIte, go_sem], ?_⟩
      · simp only [List.length_cons, List.length_nil, List.map_cons, List.map_nil]
        rw [byteV_of (by omega)]
        simp (disch := first | omega | (simp only [zz]; try omega; done)) only [go_sem]
        simp
      · simp (disch := first | omega | (simp only [zz]; try omega; done)) only [↓reduceIte, go_sem]
        exact hK _ _ (by repeat (first | exact Step.refl _ _ _ | assumption | apply Step.pushR))
    · have e : plainF t = (3, 0, t.2.2.1.take 255, t.2.2.2) := by unfold plainF; rw [if_neg h0, if_neg h1]
      rw [e] at hK
      by_cases hl : t.2.2.1.length ≤ 255
      · rw [List.take_of_length_le hl] at hK
        simp (disch := first | omega | (simp only [zz]; try omega; done)) only [↓reduceIte, go_sem, eq_false h1, eq_false h0, eq_false (show ¬ (255 : Int) < t.2.2.1.length by omega)]
        rw [List.take_length]
        exact ⟨Nat.le_refl _, hK _ _ (by repeat (first | exact Step.refl _ _ _ | assumption | apply Step.pushR))⟩
      · simp (disch := first | omega | (simp only [zz]; try omega; done)) only [↓reduceIte, go_sem, eq_false h1, eq_false h0, eq_true (show (255 : Int) < t.2.2.1.length by omega)]
        exact ⟨by omega, hK _ _ (by repeat (first | exact Step.refl _ _ _ | assumption | apply Step.pushR))⟩
theorem klWild_ok {vs : List Value} {h : H} {K : Value → H → Prop} {KP : List PanicEntry → H → Prop} (hC : C_termT wildF vs h K) : HCX Try.prog 60 vs h K KP := by
  obtain ⟨u, t, rfl, hs, hK⟩ := hC
  refine klWild_H G_klSize G_klSize_ok _ ?_
  simp (disch := first | omega | (simp only [zz]; try omega; done)) only [↓reduceIte, go_sem, klWild_S, klWild_E, Term.enc]
  refine effS_call ⟨rfl, t.2.2.1, rfl, hs, ⟨by simp (disch := first | omega | (simp only [zz]; try omega; done)) only [go_sem], ?_⟩⟩
  have hq : ((sizeF t.2.2.1 : Nat) : Int).tmod 13 = ((sizeF t.2.2.1 % 13 : Nat) : Int) := by rw [Int.tmod_eq_emod_of_nonneg (by omega)]; omega
  by_cases h12 : sizeF t.2.2.1 % 13 = 12
  · have e : wildF t = (4, 0, [95], t.2.2.2) := by unfold wildF wildN; rw [if_pos h12]
    rw [e] at hK
    simp (disch := first | omega | (simp only [zz]; try omega; done)) only [↓reduceIte, go_sem, hq, eq_true (show ((sizeF t.2.2.1 % 13 : Nat) : Int) = 12 by omega)]
    exact hK _ _ (by repeat (first | exact Step.refl _ _ _ | assumption | apply Step.pushR))
  · have e : wildF t = (4, 0, [UInt8.ofNat (65 + sizeF t.2.2.1 % 13)], t.2.2.2) := by unfold wildF wildN; rw [if_neg h12]
    rw [e] at hK
    have hw : IntKind.u8.wrap ((sizeF t.2.2.1 % 13 : Nat) : Int) = ((sizeF t.2.2.1 % 13 : Nat) : Int) := u8_wrap (by omega) (by omega)
    have hw2 : IntKind.u8.wrap (65 + ((sizeF t.2.2.1 % 13 : Nat) : Int)) = 65 + ((sizeF t.2.2.1 % 13 : Nat) : Int) := u8_wrap (by omega) (by omega)
    simp (disch := first | omega | (simp only [zz]; try omega; done)) only [↓reduceIte, go_sem, hq, eq_false (show ¬ ((sizeF t.2.2.1 % 13 : Nat) : Int) = 12 by omega), hw, hw2]
    refine effS_b2sL [UInt8.ofNat (65 + sizeF t.2.2.1 % 13)] rfl (by simp (disch := first | omega | (simp only [zz]; try omega; done)) only [go_sem]) ?_ ⟨by simp (disch := first | omega | (simp only [zz]; try omega; done)) only [go_sem], ?_⟩
    · simp only [List.length_cons, List.length_nil, List.map_cons, List.map_nil]
      rw [byteV_of (by omega)]
      simp (disch := first | omega | (simp only [zz]; try omega; done)) only [go_sem]
      simp
    · simp (disch := first | omega | (simp only [zz]; try omega; done)) only [↓reduceIte, go_sem]
      exact hK _ _ (by repeat (first | exact Step.refl _ _ _ | assumption | apply Step.pushR))
def C_within (vs : List Value) (h : H) (K : Value → H → Prop) : Prop := ∃ (u : U) (v : Value) (l : Strs) (s : List UInt8), vs = [v, str s] ∧ IsSl u h v l ∧ K (.bool (decide (s ∈ l))) h
theorem klWithin_ok {vs : List Value} {h : H} {K : Value → H → Prop} {KP : List PanicEntry → H → Prop} (hC : C_within vs h K) : HCX Try.prog 38 vs h K KP := by
  obtain ⟨u, v, l, s, rfl, hl, hK⟩ := hC
  obtain ⟨la, lc, rfl, q1, q2⟩ := hl.sl
  have hm := mlen'
  refine klWithin_H (fun _ _ _ _ _ => False) (fun _ _ _ _ _ h => h.elim) _ _ ?_
  simp (disch := first | omega | (simp only [zz]; try omega; done)) only [go_sem, klWithin_S, klWithin_E]
  obtain ⟨I, hI⟩ : ∃ I : Nat → Env → H → Prop, I = fun i σ h' => h' = h ∧ σ 0 = .slice la l.length lc ∧ σ 1 = str s ∧ σ 5 = .int .i64 i ∧ i ≤ l.length ∧ s ∉ l.take i := ⟨_, rfl⟩
  refine wpS_loop I (fun i => l.length - i) 0 (by rw [hI]; exact ⟨rfl, by simp [upd], by simp [upd], by simp [upd], Nat.zero_le _, by simp⟩) ?_
  intro i σ h' hy
  rw [hI] at hy
  obtain ⟨rfl, e0, e1, e5, hi, hn⟩ := hy
  by_cases hlt : i < l.length
  · obtain ⟨x, hx⟩ : ∃ x, l[i]? = some x := ⟨l[i], by simp [hlt]⟩
    obtain ⟨pb, po, rfl, hpb, hpu, hpz, hpr⟩ := hl.row i x hx
    rw [rep_str] at hpr
    simp only [sz_str, hvs_1, List.cons.injEq, and_true] at hpr hpu hpz
    have htk : l.take (i + 1) = l.take i ++ [x] := by rw [List.take_add_one, hx]; rfl
    by_cases he : x = s
    · have hin : s ∈ l := by rw [← he]; exact List.mem_of_getElem? hx
      rw [decide_eq_true hin] at hK
      simp (disch := first | omega | (simp only [zz]; try omega; done)) only [↓reduceIte, go_sem, klWithin_L1, e0, e1, e5, hlt, hpr, eq_true he]
      exact hK
    · simp (disch := first | omega | (simp only [zz]; try omega; done)) only [↓reduceIte, go_sem, klWithin_L1, e0, e1, e5, hlt, hpr, eq_false he]
      refine ⟨i + 1, ?_, by omega⟩
      rw [hI]
      refine ⟨rfl, by simp [upd, e0], by simp [upd, e1], by simp [upd], hlt, ?_⟩
      rw [htk, List.mem_append, List.mem_singleton]
      exact fun h => h.elim hn (fun h => he h.symm)
  · obtain rfl : i = l.length := by omega
    rw [List.take_length] at hn
    rw [decide_eq_false hn] at hK
    simp (disch := first | omega | (simp only [zz]; try omega; done)) only [↓reduceIte, go_sem, klWithin_L1, e0, e5]
    exact hK
end Go.Proofs.Ytkobamedfbgjbaa
