/- sym: letter, quoted, Text: they come back with a text. -/
import Derived.Test.YtdaldilmjhdpaaaKbA
import Derived.Test.YtdaldilmjhdpaaaKvB
import Derived.Test.YtdaldilmjhdpaaaWell
namespace Go.Ev
open Go
theorem eb_bits {h : H} {op : BinOp} {k k' : IntKind} {a b : Int} : v2 (.bits op) (.int k a) (.int k' b) h = .int k (bitsI op k a b) := (rfl)
theorem eb_bitsc {h : H} {op : BinOp} {k k' : IntKind} {a b : Int} : s2 (.bits op) (.int k a) (.int k' b) h = (if isShift op then 0 ≤ b else k = k') := by simp [s2, isInt, ti, tk]
theorem nib_hi : ∀ a < 256, 0 ≤ bitsI .shr .u8 ((a : Nat) : Int) 4 ∧ bitsI .shr .u8 ((a : Nat) : Int) 4 < 16 := by decide +kernel
theorem nib_lo : ∀ a < 256, 0 ≤ bitsI .and .u8 ((a : Nat) : Int) 15 ∧ bitsI .and .u8 ((a : Nat) : Int) 15 < 16 := by decide +kernel
/-- Two bytes, laid into a new block. -/
theorem isY2 (u : U) (h : H) (e : TypeId) (x y : UInt8) : IsSlY (ub u h.size 2) (h.push (.cells #[.int .u8 x.toNat, .int .u8 y.toNat] e)) (.slice (some ⟨h.size, 0, none⟩) 2 2) [x, y] := by
  have := @Own.isSl UInt8 repB8 _ _ _ _ _ (@Own.made UInt8 repB8 0 u h (Nat.zero_le _) e [x, y] [.int .u8 x.toNat, .int .u8 y.toNat] rfl (by simp only [List.length_cons, List.length_nil]; decide) (fun i z hz => ?_))
  · exact this
  · match i, hz with
    | 0, hz => cases hz; rfl
    | 1, hz => cases hz; rfl
end Go.Ev
namespace Go.Proofs.Ytdaldilmjhdpaaa
open Go Go.Ev Edict
def C_letter (vs : List Value) (h : H) (K : Value → H → Prop) : Prop := ∃ c : UInt8, vs = [.int .u8 c.toNat] ∧ ∀ d : UInt8, K (.int .u8 d.toNat) h
theorem syLetter_ok {vs : List Value} {h : H} {K : Value → H → Prop} {KP : List PanicEntry → H → Prop} (hC : C_letter vs h K) : HCX Try.prog 71 vs h K KP := by
  obtain ⟨c, rfl, hK⟩ := hC
  refine syLetter_H (fun _ _ _ _ _ => False) (fun _ _ _ _ _ h => h.elim) _ ?_
  by_cases h1 : (c.toNat : Int) = 34
  · simp (disch := first | omega | (simp only [e_ssz, e_psz, e_hszs, List.length_cons, List.length_nil]; try omega; done)) only [↓reduceIte, go_sem, syLetter_S, syLetter_E, eq_true h1]
    exact hK c
  by_cases h2 : (c.toNat : Int) = 92
  · simp (disch := first | omega | (simp only [e_ssz, e_psz, e_hszs, List.length_cons, List.length_nil]; try omega; done)) only [↓reduceIte, go_sem, syLetter_S, syLetter_E, eq_false h1, eq_true h2]
    exact hK c
  by_cases h3 : (c.toNat : Int) = 10
  · simp (disch := first | omega | (simp only [e_ssz, e_psz, e_hszs, List.length_cons, List.length_nil]; try omega; done)) only [↓reduceIte, go_sem, syLetter_S, syLetter_E, eq_false h1, eq_false h2, eq_true h3]
    exact hK 110
  by_cases h4 : (c.toNat : Int) = 9
  · simp (disch := first | omega | (simp only [e_ssz, e_psz, e_hszs, List.length_cons, List.length_nil]; try omega; done)) only [↓reduceIte, go_sem, syLetter_S, syLetter_E, eq_false h1, eq_false h2, eq_false h3, eq_true h4]
    exact hK 116
  by_cases h5 : (c.toNat : Int) = 13
  · simp (disch := first | omega | (simp only [e_ssz, e_psz, e_hszs, List.length_cons, List.length_nil]; try omega; done)) only [↓reduceIte, go_sem, syLetter_S, syLetter_E, eq_false h1, eq_false h2, eq_false h3, eq_false h4, eq_true h5]
    exact hK 114
  · simp (disch := first | omega | (simp only [e_ssz, e_psz, e_hszs, List.length_cons, List.length_nil]; try omega; done)) only [↓reduceIte, go_sem, syLetter_S, syLetter_E, eq_false h1, eq_false h2, eq_false h3, eq_false h4, eq_false h5]
    exact hK 0
def C_quoted (vs : List Value) (h : H) (K : Value → H → Prop) : Prop := ∃ (u : U) (s : List UInt8), vs = [str s] ∧ s.length ≤ 255 ∧ ∀ u' h' (l : List UInt8), Step S0 u h u' h' → l.length ≤ 2048 → K (str l) h'
def G_syQuoted : Ctr := fun f vs h K _ => (f = 71 ∧ C_letter vs h K) ∨ (f = 18 ∧ C_wbyte vs h K) ∨ (f = 28 ∧ C_wstr vs h K) ∨ (f = 72 ∧ C_write vs h K) ∨ (f = 19 ∧ C_bstring vs h K)
theorem G_syQuoted_ok : GOk Try.prog G_syQuoted := by
  rintro f vs h K KP (⟨rfl, hC⟩ | ⟨rfl, hC⟩ | ⟨rfl, hC⟩ | ⟨rfl, hC⟩ | ⟨rfl, hC⟩)
  · exact syLetter_ok hC
  · exact sbWriteByte_ok hC
  · exact sbWriteString_ok hC
  · exact sbWrite_ok hC
  · exact sbString_ok hC
theorem syQuoted_ok {vs : List Value} {h : H} {K : Value → H → Prop} {KP : List PanicEntry → H → Prop} (hC : C_quoted vs h K) : HCX Try.prog 69 vs h K KP := by
  obtain ⟨u, s, rfl, hs, hK⟩ := hC
  refine syQuoted_H G_syQuoted G_syQuoted_ok _ ?_
  simp (disch := first | omega | (simp only [e_ssz, e_psz, e_hszs, List.length_cons, List.length_nil]; try omega; done)) only [↓reduceIte, go_sem, syQuoted_S, syQuoted_E]
  have sp : Step S0 u h _ _ := Step.push0 S0 u h #[.pointer none, .slice none 0 0] 55
  have B0 := Bu.new u h
  refine effS_call (.inr (.inl ⟨rfl, _, 34, rfl, h.size, _, h.size, [], rfl, B0, by decide, fun u1 h1 s1 B1 hb1 => ⟨by simp (disch := first | omega | (simp only [e_ssz, e_psz, e_hszs, List.length_cons, List.length_nil]; try omega; done)) only [go_sem], ?_⟩⟩))
  have st1 : Step S0 u h u1 h1 := sp.trans s1 (fun i hi hB => by have := (B0.ge hB).1; omega)
  simp (disch := first | omega | (simp only [e_ssz, e_psz, e_hszs, List.length_cons, List.length_nil]; try omega; done)) only [↓reduceIte, go_sem]
  refine effS_s2b u1 (by omega) fun cap u2 h2 hcap s2 hlt2 hz hcell => ⟨by simp (disch := first | omega | (simp only [e_ssz, e_psz, e_hszs, List.length_cons, List.length_nil]; try omega; done)) only [go_sem], ?_⟩
  obtain ⟨B2, e2⟩ := B1.step0 s2
  have st2 := st1.trans0 s2
  obtain ⟨r, hr⟩ : ∃ r, r = h1.size := ⟨_, rfl⟩
  rw [← hr] at hlt2 hz hcell
  have hnr : ¬ BldB h2 h.size r := fun hB => by
    have hB : BldB h1 h.size r := by rcases hB with hB | hB
                                     · exact .inl hB
                                     · exact .inr (by rw [e2] at hB; exact hB)
    have := (B1.ge hB).2
    omega
  simp (disch := first | omega | (simp only [e_ssz, e_psz, e_hszs, List.length_cons, List.length_nil]; try omega; done)) only [↓reduceIte, go_sem, ← hr]
  obtain ⟨I, hI⟩ : ∃ I : Nat → Env → H → Prop, I = fun i σ h' => σ 3 = .pointer (some ⟨h.size, 0, none⟩) ∧ σ 9 = .slice (some ⟨r, 0, none⟩) s.length cap ∧ σ 10 = .int .i64 s.length ∧ σ 11 = .int .i64 i ∧ i ≤ s.length ∧
    ∃ (u' : U) (l : List UInt8), Step S0 u h u' h' ∧ Bu h.size u' h' h.size l ∧ l.length ≤ 1 + 4 * i ∧ r < h'.size ∧ ¬ BldB h' h.size r ∧ s.length ≤ hsz h' r ∧ ∀ (j : Nat) (b : UInt8), s[j]? = some b → Go.Ev.hv h' r j = .int .u8 b.toNat := ⟨_, rfl⟩
  refine wpS_loop I (fun i => s.length - i) 0 (by
    rw [hI]
    exact ⟨by simp [upd], by simp [upd], by simp [upd], by simp [upd], Nat.zero_le _, u2, _, st2, B2, by simp, hlt2, hnr, hz, hcell⟩) ?_
  clear hz hcell hnr B2 st2 s2 B1 st1 s1 hb1 e2 B0 sp hlt2 hr
  intro i σ h' hy
  rw [hI] at hy
  obtain ⟨e3, e9, e10, e11, hi, u', l, st, B, hl, hrl, hnr, hz, hcell⟩ := hy
  by_cases hlt : i < s.length
  · obtain ⟨c, hc⟩ : ∃ c, s[i]? = some c := ⟨s[i], by simp [hlt]⟩
    have hci := hcell i c hc
    have hc256 := c.toNat_lt
    -- the next round
    have next : ∀ (σ' : Env) (u3 : U) (h3 : H) (m : List UInt8), σ' 3 = σ 3 → σ' 9 = σ 9 → σ' 10 = σ 10 → σ' 11 = .int .i64 ((i : Int) + 1) → Step (BldB h' h.size) u' h' u3 h3 → Bu h.size u3 h3 h.size (l ++ m) → m.length ≤ 4 →
        (∀ j, BldB h3 h.size j → BldB h' h.size j ∨ h'.size ≤ j) → ∃ y, I y σ' h3 ∧ s.length - y < s.length - i := fun σ' u3 h3 m g3 g9 g10 g11 s3 B3 hm hb3 => by
      refine ⟨i + 1, ?_, by omega⟩
      rw [hI]
      obtain ⟨q1, q2⟩ := s3.same r hrl hnr
      refine ⟨by rw [g3, e3], by rw [g9, e9], by rw [g10, e10], g11, hlt, u3, _, st.trans s3 (fun j hj hB => by have := (B.ge hB).1; omega), B3, by rw [List.length_append]; omega, Nat.lt_of_lt_of_le hrl s3.ge.sz, fun hB => ?_, by rw [(s3.ge.hs r hrl).1]; exact hz, fun j b hb => by unfold Go.Ev.hv Go.Ev.hc; rw [q1]; exact hcell j b hb⟩
      rcases hb3 r hB with hB | hB
      · exact hnr hB
      · omega
    simp (disch := first | omega | (simp only [e_ssz, e_psz, e_hszs, List.length_cons, List.length_nil]; try omega; done)) only [↓reduceIte, go_sem, syQuoted_L1, e9, e10, e11, hlt, hci, Nat.mul_one]
    refine effS_call (.inl ⟨rfl, c, rfl, fun d => ⟨by simp (disch := first | omega | (simp only [e_ssz, e_psz, e_hszs, List.length_cons, List.length_nil]; try omega; done)) only [go_sem], ?_⟩⟩)
    by_cases hd : (d.toNat : Int) = 0
    · by_cases hp : 32 ≤ (c.toNat : Int) ∧ (c.toNat : Int) ≤ 126
      · simp (disch := first | omega | (simp only [e_ssz, e_psz, e_hszs, List.length_cons, List.length_nil]; try omega; done)) only [↓reduceIte, go_sem, e3, eq_true hd, eq_true hp.1, eq_true hp.2]
        refine effS_call (.inr (.inl ⟨rfl, _, c, rfl, h.size, u', h.size, l, rfl, B, by simp; omega, fun u3 h3 s3 B3 hb3 => ⟨by simp (disch := first | omega | (simp only [e_ssz, e_psz, e_hszs, List.length_cons, List.length_nil]; try omega; done)) only [go_sem], ?_⟩⟩))
        simp (disch := first | omega | (simp only [e_ssz, e_psz, e_hszs, List.length_cons, List.length_nil]; try omega; done)) only [↓reduceIte, go_sem, e11]
        exact next _ u3 h3 [c] (by simp [upd]) (by simp [upd]) (by simp [upd]) (by simp [upd]) s3 B3 (by simp) hb3
      · have hsh := nib_hi c.toNat hc256
        have hlo := nib_lo c.toNat hc256
        have chain : ∀ {ua ub uc : U} {ha hb hc : H}, Step (BldB ha h.size) ua ha ub hb → (∀ j, BldB hb h.size j → BldB ha h.size j ∨ ha.size ≤ j) → Step (BldB hb h.size) ub hb uc hc → (∀ j, BldB hc h.size j → BldB hb h.size j ∨ hb.size ≤ j) →
            Step (BldB ha h.size) ua ha uc hc ∧ ∀ j, BldB hc h.size j → BldB ha h.size j ∨ ha.size ≤ j := fun p1 p2 p3 p4 =>
          ⟨p1.trans p3 (fun j hj hB => (p2 j hB).elim id (fun h => by omega)), fun j hB => (p4 j hB).elim (p2 j) (fun h => .inr (Nat.le_trans p1.ge.sz h))⟩
        by_cases q : 32 ≤ (c.toNat : Int)
        · have q2 : ¬ (c.toNat : Int) ≤ 126 := fun h => hp ⟨q, h⟩
          simp (disch := first | omega | (simp only [e_ssz, e_psz, e_hszs, List.length_cons, List.length_nil]; try omega; done)) only [↓reduceIte, go_sem, e3, eq_true hd, eq_true q, eq_false q2]
          refine effS_call (.inr (.inr (.inl ⟨rfl, _, [92, 120], rfl, h.size, u', h.size, l, rfl, B, by simp; omega, fun u3 h3 s3 B3 hb3 => ⟨by simp (disch := first | omega | (simp only [e_ssz, e_psz, e_hszs, List.length_cons, List.length_nil]; try omega; done)) only [go_sem], ?_⟩⟩)))
          simp (disch := first | omega | (simp only [e_ssz, e_psz, e_hszs, List.length_cons, List.length_nil]; try omega; done)) only [↓reduceIte, go_sem, e3, eb_bits, eb_bitsc, isShift]
          refine ⟨hsh.1, hsh.2, ?_⟩
          refine effS_call (.inr (.inl ⟨rfl, _, _, rfl, h.size, u3, h.size, _, rfl, B3, by simp; omega, fun u4 h4 s4 B4 hb4 => ⟨by simp (disch := first | omega | (simp only [e_ssz, e_psz, e_hszs, List.length_cons, List.length_nil]; try omega; done)) only [go_sem], ?_⟩⟩))
          simp (disch := first | omega | (simp only [e_ssz, e_psz, e_hszs, List.length_cons, List.length_nil]; try omega; done)) only [↓reduceIte, go_sem, e3, eb_bits, eb_bitsc, isShift]
          refine ⟨hlo.1, hlo.2, ?_⟩
          refine effS_call (.inr (.inl ⟨rfl, _, _, rfl, h.size, u4, h.size, _, rfl, B4, by simp; omega, fun u5 h5 s5 B5 hb5 => ⟨by simp (disch := first | omega | (simp only [e_ssz, e_psz, e_hszs, List.length_cons, List.length_nil]; try omega; done)) only [go_sem], ?_⟩⟩))
          simp (disch := first | omega | (simp only [e_ssz, e_psz, e_hszs, List.length_cons, List.length_nil]; try omega; done)) only [↓reduceIte, go_sem, e11]
          obtain ⟨c1, c2⟩ := chain s3 hb3 s4 hb4
          obtain ⟨c3, c4⟩ := chain c1 c2 s5 hb5
          rw [List.append_assoc, List.append_assoc] at B5
          exact next _ u5 h5 _ (by simp [upd]) (by simp [upd]) (by simp [upd]) (by simp [upd]) c3 B5 (by simp) c4
        · simp (disch := first | omega | (simp only [e_ssz, e_psz, e_hszs, List.length_cons, List.length_nil]; try omega; done)) only [↓reduceIte, go_sem, e3, eq_true hd, eq_false q]
          refine effS_call (.inr (.inr (.inl ⟨rfl, _, [92, 120], rfl, h.size, u', h.size, l, rfl, B, by simp; omega, fun u3 h3 s3 B3 hb3 => ⟨by simp (disch := first | omega | (simp only [e_ssz, e_psz, e_hszs, List.length_cons, List.length_nil]; try omega; done)) only [go_sem], ?_⟩⟩)))
          simp (disch := first | omega | (simp only [e_ssz, e_psz, e_hszs, List.length_cons, List.length_nil]; try omega; done)) only [↓reduceIte, go_sem, e3, eb_bits, eb_bitsc, isShift]
          refine ⟨hsh.1, hsh.2, ?_⟩
          refine effS_call (.inr (.inl ⟨rfl, _, _, rfl, h.size, u3, h.size, _, rfl, B3, by simp; omega, fun u4 h4 s4 B4 hb4 => ⟨by simp (disch := first | omega | (simp only [e_ssz, e_psz, e_hszs, List.length_cons, List.length_nil]; try omega; done)) only [go_sem], ?_⟩⟩))
          simp (disch := first | omega | (simp only [e_ssz, e_psz, e_hszs, List.length_cons, List.length_nil]; try omega; done)) only [↓reduceIte, go_sem, e3, eb_bits, eb_bitsc, isShift]
          refine ⟨hlo.1, hlo.2, ?_⟩
          refine effS_call (.inr (.inl ⟨rfl, _, _, rfl, h.size, u4, h.size, _, rfl, B4, by simp; omega, fun u5 h5 s5 B5 hb5 => ⟨by simp (disch := first | omega | (simp only [e_ssz, e_psz, e_hszs, List.length_cons, List.length_nil]; try omega; done)) only [go_sem], ?_⟩⟩))
          simp (disch := first | omega | (simp only [e_ssz, e_psz, e_hszs, List.length_cons, List.length_nil]; try omega; done)) only [↓reduceIte, go_sem, e11]
          obtain ⟨c1, c2⟩ := chain s3 hb3 s4 hb4
          obtain ⟨c3, c4⟩ := chain c1 c2 s5 hb5
          rw [List.append_assoc, List.append_assoc] at B5
          exact next _ u5 h5 _ (by simp [upd]) (by simp [upd]) (by simp [upd]) (by simp [upd]) c3 B5 (by simp) c4
    · simp (disch := first | omega | (simp only [e_ssz, e_psz, e_hszs, List.length_cons, List.length_nil]; try omega; done)) only [↓reduceIte, go_sem, e3, eq_false hd]
      have sp : Step S0 u' h' (ub u' h'.size 2) (h'.push (.cells #[.int .u8 92, .int .u8 d.toNat] 5)) := Step.push S0 u' h' _ _ 2
      obtain ⟨B2, e2⟩ := B.step0 sp
      have hy := isY2 u' h' 5 92 d
      refine effS_call (.inr (.inr (.inr (.inl ⟨rfl, h.size, _, h.size, l, [92, d], _, rfl, B2, hy, by simp; omega, fun u3 h3 s3 B3 hb3 => ⟨by simp (disch := first | omega | (simp only [e_ssz, e_psz, e_hszs, List.length_cons, List.length_nil]; try omega; done)) only [go_sem], ?_⟩⟩))))
      simp (disch := first | omega | (simp only [e_ssz, e_psz, e_hszs, List.length_cons, List.length_nil]; try omega; done)) only [↓reduceIte, go_sem, e11]
      have eB : ∀ j, BldB (h'.push (.cells #[.int .u8 92, .int .u8 d.toNat] 5)) h.size j → BldB h' h.size j := fun j hB => hB.imp id fun hB => by rw [e2] at hB; exact hB
      exact next _ u3 h3 [92, d] (by simp [upd]) (by simp [upd]) (by simp [upd]) (by simp [upd]) ((sp.mono (S' := BldB h' h.size) (fun _ _ h => h.elim)).trans s3 (fun j _ hB => eB j hB)) B3 (by simp) (fun j hB => (hb3 j hB).imp (eB j) (fun h => by simp at h; omega))
  · obtain rfl : i = s.length := by omega
    simp (disch := first | omega | (simp only [e_ssz, e_psz, e_hszs, List.length_cons, List.length_nil]; try omega; done)) only [↓reduceIte, go_sem, syQuoted_L1, e3, e10, e11]
    refine effS_call (.inr (.inl ⟨rfl, _, 34, rfl, h.size, u', h.size, l, rfl, B, by simp; omega, fun u3 h3 s3 B3 hb3 => ⟨by simp (disch := first | omega | (simp only [e_ssz, e_psz, e_hszs, List.length_cons, List.length_nil]; try omega; done)) only [go_sem], ?_⟩⟩))
    simp (disch := first | omega | (simp only [e_ssz, e_psz, e_hszs, List.length_cons, List.length_nil]; try omega; done)) only [↓reduceIte, go_sem, e3]
    have st3 : Step S0 u h u3 h3 := st.trans s3 (fun j hj hB => by have := (B.ge hB).1; omega)
    refine effS_call (.inr (.inr (.inr (.inr ⟨rfl, h.size, u3, h.size, _, rfl, B3, by simp, fun h4 hs4 hb4 => ⟨by simp (disch := first | omega | (simp only [e_ssz, e_psz, e_hszs, List.length_cons, List.length_nil]; try omega; done)) only [go_sem], ?_⟩⟩))))
    simp (disch := first | omega | (simp only [e_ssz, e_psz, e_hszs, List.length_cons, List.length_nil]; try omega; done)) only [↓reduceIte, go_sem]
    exact hK u3 h4 _ (Step.below st3 hs4 hb4) (by rw [List.length_append, List.length_singleton]; omega)
end Go.Proofs.Ytdaldilmjhdpaaa
