/- strconv.FormatInt, whatever its table of powers holds. -/
import Derived.Test.YtdaldilmjhdpaaaKvA
import Derived.Test.YtdaldilmjhdpaaaShelfB
namespace Go.Proofs.Ytdaldilmjhdpaaa
open Go Go.Ev
theorem e_cutPc {h : H} {b o l m : Nat} {k k' : IntKind} {i j : Int} : s3 (.cutP l m) (.pointer (some ⟨b, o, none⟩)) (.int k i) (.int k' j) h = (0 ≤ i ∧ i ≤ j ∧ j ≤ l) := by simp [s3, isInt, ti]
theorem e_cutP {h : H} {b : Nat} {k k' : IntKind} {j : Int} : v3 (.cutP 24 1) (.pointer (some ⟨b, 0, none⟩)) (.int k 1) (.int k' j) h = .slice (some ⟨b, 1, none⟩) (j.toNat - 1) 23 := (rfl)
theorem e_cutPHc {h : H} {b o l : Nat} {k : IntKind} {i : Int} : s2 (.cutPH l) (.pointer (some ⟨b, o, none⟩)) (.int k i) h = (0 ≤ i ∧ i ≤ l) := by simp [s2, isInt, ti]
theorem e_cutPH {h : H} {b o l : Nat} {k : IntKind} {i : Int} : v2 (.cutPH l) (.pointer (some ⟨b, o, none⟩)) (.int k i) h = .slice (some ⟨b, o, none⟩) i.toNat l := (rfl)
theorem bitLen_le : ∀ (f x : Nat), Lib.bitLenAux f x ≤ f
  | 0, _ => Nat.le_refl _
  | f + 1, x => by
    unfold Lib.bitLenAux
    split
    · omega
    · have := bitLen_le f (x / 2); omega
theorem l10_le : ∀ x ≤ 64, Lib.l10 x ≤ 19 := by decide
/-- The table of powers: twenty cells of uint64. -/
def PowT (u : U) (h : H) : Prop := 0 < h.size ∧ hsz h 0 = 20 ∧ 20 ≤ u 0 ∧ ∀ i, i < 20 → ∃ x : Int, Go.Ev.hv h 0 i = .int .u64 x
theorem PowT.mono {u u' : U} {h h' : H} (k : PowT u h) (g : Ge u h u' h') : PowT u' h' := by
  obtain ⟨k1, k2, k3, k4⟩ := k
  exact ⟨Nat.lt_of_lt_of_le k1 g.sz, by rw [(g.hs _ k1).1]; exact k2, Nat.le_trans k3 (g.up _ k1), fun i hi => by rw [g.cl _ k1 i (by omega)]; exact k4 i hi⟩
def C_len64 (vs : List Value) (h : H) (K : Value → H → Prop) : Prop := ∃ x : Int, vs = [.int .u64 x] ∧ 0 ≤ x ∧ x ≤ 18446744073709551615 ∧ ∀ n : Nat, n ≤ 64 → K (.int .i64 n) h
theorem mbLen64_ok {vs : List Value} {h : H} {K : Value → H → Prop} {KP : List PanicEntry → H → Prop} (hC : C_len64 vs h K) : HCX Try.prog 78 vs h K KP := by
  obtain ⟨x, rfl, h0, h1, hK⟩ := hC
  refine .inl ⟨by kernel_rfl, fun w hw => ?_⟩
  subst hw
  refine (Try.bits_Len64 x w h0 h1).mono ?_
  rintro e w' ⟨rfl, rfl⟩
  exact ⟨⟨rfl, rfl, rfl⟩, hK _ (bitLen_le 64 _)⟩
def C_log (vs : List Value) (h : H) (K : Value → H → Prop) : Prop := ∃ x : Nat, vs = [.int .i64 x] ∧ x ≤ 64 ∧ ∀ n : Nat, n ≤ 19 → K (.int .i64 n) h
theorem cvLog_ok {vs : List Value} {h : H} {K : Value → H → Prop} {KP : List PanicEntry → H → Prop} (hC : C_log vs h K) : HCX Try.prog 77 vs h K KP := by
  obtain ⟨x, rfl, h0, hK⟩ := hC
  refine .inl ⟨by kernel_rfl, fun w hw => ?_⟩
  subst hw
  refine (Try.internal_strconv_log10Pow2 x h0 w).mono ?_
  rintro e w' ⟨rfl, rfl⟩
  exact ⟨⟨rfl, rfl, rfl⟩, hK _ (l10_le x h0)⟩
def C_bool2 (vs : List Value) (h : H) (K : Value → H → Prop) : Prop := ∃ x : Bool, vs = [.bool x] ∧ K (.int .i64 (if x then 1 else 0)) h
theorem cvBool_ok {vs : List Value} {h : H} {K : Value → H → Prop} {KP : List PanicEntry → H → Prop} (hC : C_bool2 vs h K) : HCX Try.prog 79 vs h K KP := by
  obtain ⟨x, rfl, hK⟩ := hC
  refine .inl ⟨by kernel_rfl, fun w hw => ?_⟩
  subst hw
  refine (Try.internal_strconv_bool2_int x w).mono ?_
  rintro e w' ⟨rfl, rfl⟩
  exact ⟨⟨rfl, rfl, rfl⟩, hK⟩
def C_small (vs : List Value) (h : H) (K : Value → H → Prop) : Prop := ∃ x : Nat, vs = [.int .i64 x] ∧ x < 100 ∧ ∀ s : List UInt8, s.length ≤ 24 → K (str s) h
theorem dec_small : ∀ x < 100, (Lib.decDigits x).length ≤ 24 := by decide +kernel
theorem cvSmall_ok {vs : List Value} {h : H} {K : Value → H → Prop} {KP : List PanicEntry → H → Prop} (hC : C_small vs h K) : HCX Try.prog 73 vs h K KP := by
  obtain ⟨x, rfl, h0, hK⟩ := hC
  refine .inl ⟨by kernel_rfl, fun w hw => ?_⟩
  subst hw
  refine (Try.internal_strconv_small x h0 w).mono ?_
  rintro e w' ⟨rfl, rfl⟩
  exact ⟨⟨rfl, rfl, rfl⟩, hK _ (dec_small x h0)⟩
def C_digs (vs : List Value) (h : H) (K : Value → H → Prop) : Prop := ∃ (u : U) (x : Int), vs = [.int .u64 x] ∧ 0 ≤ x ∧ x ≤ 18446744073709551615 ∧ PowT u h ∧ ∀ n : Nat, n ≤ 20 → K (.int .i64 n) h
def G_cvDigits : Ctr := fun f vs h K _ => (f = 78 ∧ C_len64 vs h K) ∨ (f = 77 ∧ C_log vs h K) ∨ (f = 79 ∧ C_bool2 vs h K)
theorem G_cvDigits_ok : GOk Try.prog G_cvDigits := by
  rintro f vs h K KP (⟨rfl, hC⟩ | ⟨rfl, hC⟩ | ⟨rfl, hC⟩)
  · exact mbLen64_ok hC
  · exact cvLog_ok hC
  · exact cvBool_ok hC
theorem cvDigits_ok {vs : List Value} {h : H} {K : Value → H → Prop} {KP : List PanicEntry → H → Prop} (hC : C_digs vs h K) : HCX Try.prog 74 vs h K KP := by
  obtain ⟨u, x, rfl, h0, h1, ⟨k1, k2, k3, k4⟩, hK⟩ := hC
  refine cvDigits_H G_cvDigits G_cvDigits_ok _ ?_
  simp (disch := first | omega | (simp only [e_ssz, e_psz, e_hszs, List.length_cons, List.length_nil]; try omega; done)) only [↓reduceIte, go_sem, cvDigits_S, cvDigits_E]
  refine effS_call (.inl ⟨rfl, x, rfl, h0, h1, fun n hn => ⟨by simp (disch := first | omega | (simp only [e_ssz, e_psz, e_hszs, List.length_cons, List.length_nil]; try omega; done)) only [go_sem], ?_⟩⟩)
  simp (disch := first | omega | (simp only [e_ssz, e_psz, e_hszs, List.length_cons, List.length_nil]; try omega; done)) only [↓reduceIte, go_sem]
  refine effS_call (.inr (.inl ⟨rfl, n, rfl, hn, fun m hm => ⟨by simp (disch := first | omega | (simp only [e_ssz, e_psz, e_hszs, List.length_cons, List.length_nil]; try omega; done)) only [go_sem], ?_⟩⟩))
  obtain ⟨y, hy⟩ := k4 m (by omega)
  simp (disch := first | omega | (simp only [e_ssz, e_psz, e_hszs, List.length_cons, List.length_nil]; try omega; done)) only [↓reduceIte, go_sem, k2, hy, Nat.mul_one]
  refine ⟨by omega, by omega, ?_⟩
  refine effS_call (.inr (.inr ⟨rfl, _, rfl, ⟨by simp (disch := first | omega | (simp only [e_ssz, e_psz, e_hszs, List.length_cons, List.length_nil]; try omega; done)) only [go_sem], ?_⟩⟩))
  obtain ⟨q, hq, hq1⟩ : ∃ q : Nat, (if y ≤ x then (1 : Int) else 0) = q ∧ q ≤ 1 := by
    by_cases e : y ≤ x
    · exact ⟨1, by simp [e], Nat.le_refl _⟩
    · exact ⟨0, by simp [e], Nat.zero_le _⟩
  simp (disch := first | omega | (simp only [e_ssz, e_psz, e_hszs, List.length_cons, List.length_nil]; try omega; done)) only [↓reduceIte, go_sem, hq, decide_eq_true_eq]
  have e : ((m : Int) + q) = ((m + q : Nat) : Int) := by omega
  rw [e]
  exact hK (m + q) (by omega)
theorem effS_b2sB {G : Ctr} {d : Option Nat} {st : Stab} {r : List St} {K : Env → H → Prop} {KP : List PanicEntry → H → Prop} {σ : Env} {h : H} {b o n c N : Nat} (hB : Byt h b N) (hn : o + n ≤ N)
    (hK : ∀ l : List UInt8, l.length = n → stabP st σ h h ∧ wpSts G r K KP (updo σ d (str l)) h) : effS G .b2s d st r K KP [.slice (some ⟨b, o, none⟩) n c] σ h := by
  obtain ⟨k1, k2, k3⟩ := hB
  have hex : ∀ m, m ≤ n → ∃ l : List UInt8, l.length = m ∧ hvs h b o m = l.map byteV := by
    intro m
    induction m with
    | zero => exact fun _ => ⟨[], rfl, rfl⟩
    | succ m ih =>
      intro hm
      obtain ⟨l, h1, h2⟩ := ih (by omega)
      obtain ⟨x, hx⟩ := k3 (o + m) (by omega)
      refine ⟨l ++ [x], by simp [h1], ?_⟩
      unfold hvs at h2 ⊢
      rw [List.range_succ, List.map_append, h2, List.map_append]
      simp [hx, byteV]
  obtain ⟨l, h1, h2⟩ := hex n (Nat.le_refl _)
  exact ⟨by rw [k1]; exact hn, l, h2, hK l h1⟩
/-- The text of an integer: it is a text. -/
def C_fmt (vs : List Value) (h : H) (K : Value → H → Prop) : Prop := ∃ (u : U) (x : Int), vs = [.int .i64 x, .int .i64 10] ∧ (-9223372036854775808 ≤ x ∧ x ≤ 9223372036854775807) ∧ PowT u h ∧ ∀ u' h' (s : List UInt8), Step S0 u h u' h' → s.length ≤ 24 → K (str s) h'
def G_cvFormat : Ctr := fun f vs h K _ => (f = 73 ∧ C_small vs h K) ∨ (f = 74 ∧ C_digs vs h K) ∨ (f = 75 ∧ C_b10 vs h K)
theorem G_cvFormat_ok : GOk Try.prog G_cvFormat := by
  rintro f vs h K KP (⟨rfl, hC⟩ | ⟨rfl, hC⟩ | ⟨rfl, hC⟩)
  · exact cvSmall_ok hC
  · exact cvDigits_ok hC
  · exact cvBase10_ok hC
theorem cvFormat_ok {vs : List Value} {h : H} {K : Value → H → Prop} {KP : List PanicEntry → H → Prop} (hC : C_fmt vs h K) : HCX Try.prog 70 vs h K KP := by
  obtain ⟨u, x, rfl, ⟨x0, x1⟩, hP, hK⟩ := hC
  refine cvFormat_H G_cvFormat G_cvFormat_ok _ _ ?_
  by_cases q1 : 0 ≤ x ∧ x < 100
  · obtain ⟨n, rfl⟩ : ∃ n : Nat, x = n := ⟨x.toNat, by omega⟩
    simp (disch := first | omega | (simp only [e_ssz, e_psz, e_hszs, List.length_cons, List.length_nil]; try omega; done)) only [↓reduceIte, go_sem, cvFormat_S, cvFormat_E, eq_true q1.1, eq_true q1.2]
    refine effS_call (.inl ⟨rfl, n, rfl, by omega, fun s hs => ⟨by simp (disch := first | omega | (simp only [e_ssz, e_psz, e_hszs, List.length_cons, List.length_nil]; try omega; done)) only [go_sem], ?_⟩⟩)
    simp (disch := first | omega | (simp only [e_ssz, e_psz, e_hszs, List.length_cons, List.length_nil]; try omega; done)) only [↓reduceIte, go_sem]
    exact hK u h s (.refl _ _ _) hs
  · obtain ⟨y, hy, hy0, hy1⟩ : ∃ y : Int, y = (if x < 0 then IntKind.u64.wrap (0 - IntKind.u64.wrap x) else IntKind.u64.wrap x) ∧ 0 ≤ y ∧ y ≤ 18446744073709551615 := by
      refine ⟨_, rfl, ?_⟩
      have e : ∀ z, IntKind.u64.wrap z = z % 18446744073709551616 := fun _ => rfl
      rw [e, e]; split <;> omega
    have sp : Step S0 u h (ub u h.size 0) (h.push (.cells #[(.int .u8 0), (.int .u8 0), (.int .u8 0), (.int .u8 0), (.int .u8 0), (.int .u8 0), (.int .u8 0), (.int .u8 0), (.int .u8 0), (.int .u8 0), (.int .u8 0), (.int .u8 0), (.int .u8 0), (.int .u8 0), (.int .u8 0), (.int .u8 0), (.int .u8 0), (.int .u8 0), (.int .u8 0), (.int .u8 0), (.int .u8 0), (.int .u8 0), (.int .u8 0), (.int .u8 0)] 117)) := Step.push0 S0 u h _ _
    have hB0 : Byt (h.push (.cells #[(.int .u8 0), (.int .u8 0), (.int .u8 0), (.int .u8 0), (.int .u8 0), (.int .u8 0), (.int .u8 0), (.int .u8 0), (.int .u8 0), (.int .u8 0), (.int .u8 0), (.int .u8 0), (.int .u8 0), (.int .u8 0), (.int .u8 0), (.int .u8 0), (.int .u8 0), (.int .u8 0), (.int .u8 0), (.int .u8 0), (.int .u8 0), (.int .u8 0), (.int .u8 0), (.int .u8 0)] 117)) h.size 24 := by
      refine ⟨by rw [e_hszpe rfl]; rfl, e_hfrpe rfl, fun i hi => ⟨0, ?_⟩⟩
      rw [e_hvpe rfl]
      have : (List.replicate 24 (Value.int .u8 0)).getD i undef = Value.int .u8 0 := by
        rw [List.getD_eq_getElem?_getD, List.getElem?_replicate, if_pos hi]; rfl
      exact this
    by_cases q2 : x < 0
    · rw [if_pos q2] at hy
      simp (disch := first | omega | (simp only [e_ssz, e_psz, e_hszs, List.length_cons, List.length_nil]; try omega; done)) only [↓reduceIte, go_sem, cvFormat_S, cvFormat_E, eq_false (show ¬ (0 : Int) ≤ x by omega), eq_true q2, ← hy]
      refine effS_call (.inr (.inl ⟨rfl, _, y, rfl, hy0, hy1, hP.mono sp.ge, fun n hn => ⟨by simp (disch := first | omega | (simp only [e_ssz, e_psz, e_hszs, List.length_cons, List.length_nil]; try omega; done)) only [go_sem], ?_⟩⟩))
      have en : (1 + (n : Int)).toNat - 1 = n := by omega
      simp (disch := first | omega | (simp only [e_ssz, e_psz, e_hszs, List.length_cons, List.length_nil]; try omega; done)) only [↓reduceIte, go_sem, e_cutPc, e_cutP, en]
      refine ⟨by omega, by omega, ?_⟩
      refine effS_call (.inr (.inr ⟨rfl, ub u h.size 0, h.size, 1, n, _, y, 24, rfl, hy0, hy1, hn, hB0, by omega, ub_self, fun h2 s2 hB2 => ⟨by simp (disch := first | omega | (simp only [e_ssz, e_psz, e_hszs, List.length_cons, List.length_nil]; try omega; done)) only [go_sem], ?_⟩⟩))
      simp (disch := first | omega | (simp only [e_ssz, e_psz, e_hszs, List.length_cons, List.length_nil]; try omega; done)) only [↓reduceIte, go_sem, hB2.1, hB2.2.1, eq_true q2, e_cutPHc, e_cutPH]
      refine ⟨by omega, by omega, ?_⟩
      have st2 : Step S0 u h (ub u h.size 0) h2 := sp.trans s2 (fun i hi e => by have e : i = h.size := e; omega)
      have hB3 : Byt (hset h2 h.size 0 (.int .u8 45)) h.size 24 := hB2.set (x := 45)
      refine effS_b2sB hB3 (by omega) fun l hl => ⟨by simp (disch := first | omega | (simp only [e_ssz, e_psz, e_hszs, List.length_cons, List.length_nil]; try omega; done)) only [go_sem], ?_⟩
      simp (disch := first | omega | (simp only [e_ssz, e_psz, e_hszs, List.length_cons, List.length_nil]; try omega; done)) only [↓reduceIte, go_sem]
      exact hK _ _ l (st2.setR (.inl (Nat.le_refl _)) (by rw [ub_self]; exact Nat.le_refl _)) (by omega)
    · rw [if_neg q2] at hy
      simp (disch := first | omega | (simp only [e_ssz, e_psz, e_hszs, List.length_cons, List.length_nil]; try omega; done)) only [↓reduceIte, go_sem, cvFormat_S, cvFormat_E, eq_true (show (0 : Int) ≤ x by omega), eq_false (show ¬ x < 100 by omega), eq_false q2, ← hy]
      refine effS_call (.inr (.inl ⟨rfl, _, y, rfl, hy0, hy1, hP.mono sp.ge, fun n hn => ⟨by simp (disch := first | omega | (simp only [e_ssz, e_psz, e_hszs, List.length_cons, List.length_nil]; try omega; done)) only [go_sem], ?_⟩⟩))
      have en : (1 + (n : Int)).toNat - 1 = n := by omega
      simp (disch := first | omega | (simp only [e_ssz, e_psz, e_hszs, List.length_cons, List.length_nil]; try omega; done)) only [↓reduceIte, go_sem, e_cutPc, e_cutP, en]
      refine ⟨by omega, by omega, ?_⟩
      refine effS_call (.inr (.inr ⟨rfl, ub u h.size 0, h.size, 1, n, _, y, 24, rfl, hy0, hy1, hn, hB0, by omega, ub_self, fun h2 s2 hB2 => ⟨by simp (disch := first | omega | (simp only [e_ssz, e_psz, e_hszs, List.length_cons, List.length_nil]; try omega; done)) only [go_sem], ?_⟩⟩))
      simp (disch := first | omega | (simp only [e_ssz, e_psz, e_hszs, List.length_cons, List.length_nil]; try omega; done)) only [↓reduceIte, go_sem, eq_false q2, e_cutPc, e_cutP, en]
      refine ⟨by omega, by omega, ?_⟩
      have st2 : Step S0 u h (ub u h.size 0) h2 := sp.trans s2 (fun i hi e => by have e : i = h.size := e; omega)
      refine effS_b2sB hB2 (by omega) fun l hl => ⟨by simp (disch := first | omega | (simp only [e_ssz, e_psz, e_hszs, List.length_cons, List.length_nil]; try omega; done)) only [go_sem], ?_⟩
      simp (disch := first | omega | (simp only [e_ssz, e_psz, e_hszs, List.length_cons, List.length_nil]; try omega; done)) only [↓reduceIte, go_sem]
      exact hK _ _ l st2 (by omega)
def G_cvFormatInt : Ctr := fun f vs h K _ => f = 70 ∧ C_fmt vs h K
theorem G_cvFormatInt_ok : GOk Try.prog G_cvFormatInt := by
  rintro f vs h K KP ⟨rfl, hC⟩
  exact cvFormat_ok hC
theorem cvFormatInt_ok {vs : List Value} {h : H} {K : Value → H → Prop} {KP : List PanicEntry → H → Prop} (hC : C_fmt vs h K) : HCX Try.prog 68 vs h K KP := by
  obtain ⟨u, x, rfl, hx, hP, hK⟩ := hC
  refine cvFormatInt_H G_cvFormatInt G_cvFormatInt_ok _ _ ?_
  simp (disch := first | omega | (simp only [e_ssz, e_psz, e_hszs, List.length_cons, List.length_nil]; try omega; done)) only [↓reduceIte, go_sem, cvFormatInt_S, cvFormatInt_E]
  refine effS_call ⟨rfl, u, x, rfl, hx, hP, fun u' h' s st hs => ⟨by simp (disch := first | omega | (simp only [e_ssz, e_psz, e_hszs, List.length_cons, List.length_nil]; try omega; done)) only [go_sem], ?_⟩⟩
  simp (disch := first | omega | (simp only [e_ssz, e_psz, e_hszs, List.length_cons, List.length_nil]; try omega; done)) only [↓reduceIte, go_sem]
  exact hK u' h' s st hs
end Go.Proofs.Ytdaldilmjhdpaaa
