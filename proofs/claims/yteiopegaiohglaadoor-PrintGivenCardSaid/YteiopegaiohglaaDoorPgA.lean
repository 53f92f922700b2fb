/- sym: letter, quoted, with their texts. -/
import Derived.Test.YteiopegaiohglaaDoorKbAG
import Derived.Test.YteiopegaiohglaaDoorPgP
namespace Go.Ev
open Go
theorem eb_bits {h : H} {op : BinOp} {k k' : IntKind} {a b : Int} : v2 (.bits op) (.int k a) (.int k' b) h = .int k (bitsI op k a b) := (rfl)
theorem eb_bitsc {h : H} {op : BinOp} {k k' : IntKind} {a b : Int} : s2 (.bits op) (.int k a) (.int k' b) h = (if isShift op then 0 ≤ b else k = k') := by simp [s2, isInt, ti, tk]
theorem nib_hi : ∀ a < 256, 0 ≤ bitsI .shr .u8 ((a : Nat) : Int) 4 ∧ bitsI .shr .u8 ((a : Nat) : Int) 4 < 16 := by decide +kernel
theorem nib_lo : ∀ a < 256, 0 ≤ bitsI .and .u8 ((a : Nat) : Int) 15 ∧ bitsI .and .u8 ((a : Nat) : Int) 15 < 16 := by decide +kernel
theorem dig_hi : ∀ a < 256, ([48, 49, 50, 51, 52, 53, 54, 55, 56, 57, 97, 98, 99, 100, 101, 102] : List UInt8).getD (bitsI .shr .u8 ((a : Nat) : Int) 4).toNat 0 = UInt8.ofNat (Edict.hexD (a / 16)) := by decide +kernel
theorem dig_lo : ∀ a < 256, ([48, 49, 50, 51, 52, 53, 54, 55, 56, 57, 97, 98, 99, 100, 101, 102] : List UInt8).getD (bitsI .and .u8 ((a : Nat) : Int) 15).toNat 0 = UInt8.ofNat (Edict.hexD (a % 16)) := by decide +kernel
/-- Two bytes, laid into a new block. -/
theorem isY2 (u : U) (h : H) (e : TypeId) (x y : UInt8) : IsSlY (ub u h.size 2) (h.push (.cells #[.int .u8 x.toNat, .int .u8 y.toNat] e)) (.slice (some ⟨h.size, 0, none⟩) 2 2) [x, y] := by
  have := @Own.isSl UInt8 repB8 _ _ _ _ _ (@Own.made UInt8 repB8 0 u h (Nat.zero_le _) e [x, y] [.int .u8 x.toNat, .int .u8 y.toNat] rfl (by simp only [List.length_cons, List.length_nil]; decide) (fun i z hz => ?_))
  · exact this
  · match i, hz with
    | 0, hz => cases hz; rfl
    | 1, hz => cases hz; rfl
end Go.Ev
namespace Edict
theorem letF_lt (c : UInt8) : letF c.toNat < 256 := by
  have : ∀ n : Fin 256, letF n.val < 256 := by decide +kernel
  exact this ⟨c.toNat, UInt8.toNat_lt c⟩
theorem quoB_take {s : List UInt8} {i : Nat} {c : UInt8} (h : s[i]? = some c) : quoB (s.take (i + 1)) = quoB (s.take i) ++ quoC c := by
  unfold quoB
  rw [List.take_add_one, h, List.flatMap_append]
  simp
end Edict
namespace Go.Proofs.YteiopegaiohglaaDoor
open Go Go.Ev Edict
def C_letter (vs : List Value) (h : H) (K : Value → H → Prop) : Prop := ∃ c : UInt8, vs = [.int .u8 c.toNat] ∧ K (.int .u8 (letF c.toNat : Nat)) h
theorem syLetter_ok {vs : List Value} {h : H} {K : Value → H → Prop} {KP : List PanicEntry → H → Prop} (hC : C_letter vs h K) : HCX Tryd.prog 112 vs h K KP := by
  obtain ⟨c, rfl, hK⟩ := hC
  refine syLetter_H (fun _ _ _ _ _ => False) (fun _ _ _ _ _ h => h.elim) _ ?_
  generalize c.toNat = n at hK ⊢
  unfold letF at hK
  by_cases h1 : n = 34
  · rw [if_pos (.inl h1)] at hK
    simp (disch := first | omega | (simp only [e_ssz, e_psz, e_hszs, List.length_cons, List.length_nil]; try omega; done)) only [↓reduceIte, go_sem, syLetter_S, syLetter_E, eq_true (show (n : Int) = 34 by omega)]
    exact hK
  by_cases h2 : n = 92
  · rw [if_pos (.inr h2)] at hK
    simp (disch := first | omega | (simp only [e_ssz, e_psz, e_hszs, List.length_cons, List.length_nil]; try omega; done)) only [↓reduceIte, go_sem, syLetter_S, syLetter_E, eq_false (show ¬ (n : Int) = 34 by omega), eq_true (show (n : Int) = 92 by omega)]
    exact hK
  rw [if_neg (by omega)] at hK
  by_cases h3 : n = 10
  · rw [if_pos h3] at hK
    simp (disch := first | omega | (simp only [e_ssz, e_psz, e_hszs, List.length_cons, List.length_nil]; try omega; done)) only [↓reduceIte, go_sem, syLetter_S, syLetter_E, eq_false (show ¬ (n : Int) = 34 by omega), eq_false (show ¬ (n : Int) = 92 by omega), eq_true (show (n : Int) = 10 by omega)]
    exact hK
  rw [if_neg h3] at hK
  by_cases h4 : n = 9
  · rw [if_pos h4] at hK
    simp (disch := first | omega | (simp only [e_ssz, e_psz, e_hszs, List.length_cons, List.length_nil]; try omega; done)) only [↓reduceIte, go_sem, syLetter_S, syLetter_E, eq_false (show ¬ (n : Int) = 34 by omega), eq_false (show ¬ (n : Int) = 92 by omega), eq_false (show ¬ (n : Int) = 10 by omega), eq_true (show (n : Int) = 9 by omega)]
    exact hK
  rw [if_neg h4] at hK
  by_cases h5 : n = 13
  · rw [if_pos h5] at hK
    simp (disch := first | omega | (simp only [e_ssz, e_psz, e_hszs, List.length_cons, List.length_nil]; try omega; done)) only [↓reduceIte, go_sem, syLetter_S, syLetter_E, eq_false (show ¬ (n : Int) = 34 by omega), eq_false (show ¬ (n : Int) = 92 by omega), eq_false (show ¬ (n : Int) = 10 by omega), eq_false (show ¬ (n : Int) = 9 by omega), eq_true (show (n : Int) = 13 by omega)]
    exact hK
  · rw [if_neg h5] at hK
    simp (disch := first | omega | (simp only [e_ssz, e_psz, e_hszs, List.length_cons, List.length_nil]; try omega; done)) only [↓reduceIte, go_sem, syLetter_S, syLetter_E, eq_false (show ¬ (n : Int) = 34 by omega), eq_false (show ¬ (n : Int) = 92 by omega), eq_false (show ¬ (n : Int) = 10 by omega), eq_false (show ¬ (n : Int) = 9 by omega), eq_false (show ¬ (n : Int) = 13 by omega)]
    exact hK
def C_quoted (vs : List Value) (h : H) (K : Value → H → Prop) : Prop := ∃ (u : U) (s : List UInt8), vs = [str s] ∧ s.length ≤ 255 ∧ ∀ u' h', Step S0 u h u' h' → K (str (quoF s)) h'
def G_syQuoted : Ctr := fun f vs h K _ => (f = 112 ∧ C_letter vs h K) ∨ (f = 43 ∧ C_wbyte vs h K) ∨ (f = 16 ∧ C_wstr vs h K) ∨ (f = 113 ∧ C_write vs h K) ∨ (f = 17 ∧ C_bstring vs h K)
theorem G_syQuoted_ok : GOk Tryd.prog G_syQuoted := by
  rintro f vs h K KP (⟨rfl, hC⟩ | ⟨rfl, hC⟩ | ⟨rfl, hC⟩ | ⟨rfl, hC⟩ | ⟨rfl, hC⟩)
  · exact syLetter_ok hC
  · exact sbWriteByte_ok hC
  · exact sbWriteString_ok hC
  · exact sbWrite_ok hC
  · exact sbString_ok hC
theorem syQuoted_ok {vs : List Value} {h : H} {K : Value → H → Prop} {KP : List PanicEntry → H → Prop} (hC : C_quoted vs h K) : HCX Tryd.prog 111 vs h K KP := by
  obtain ⟨u, s, rfl, hs, hK⟩ := hC
  refine syQuoted_H G_syQuoted G_syQuoted_ok _ ?_
  simp (disch := first | omega | (simp only [e_ssz, e_psz, e_hszs, List.length_cons, List.length_nil]; try omega; done)) only [↓reduceIte, go_sem, syQuoted_S, syQuoted_E]
  have sp : Step S0 u h _ _ := Step.push0 S0 u h #[.pointer none, .slice none 0 0] 51
  have B0 := Bu.new u h
  refine effS_call (.inr (.inl ⟨rfl, _, 34, rfl, h.size, _, h.size, [], rfl, B0, by decide, fun u1 h1 s1 B1 hb1 => ⟨by simp (disch := first | omega | (simp only [e_ssz, e_psz, e_hszs, List.length_cons, List.length_nil]; try omega; done)) only [go_sem], ?_⟩⟩))
  have st1 : Step S0 u h u1 h1 := sp.trans s1 (fun i hi hB => by have := (B0.ge hB).1; omega)
  simp (disch := first | omega | (simp only [e_ssz, e_psz, e_hszs, List.length_cons, List.length_nil]; try omega; done)) only [↓reduceIte, go_sem]
  refine effS_s2b u1 (by omega) fun cap u2 h2 hcap s2 hlt2 hz hcell => ⟨by simp (disch := first | omega | (simp only [e_ssz, e_psz, e_hszs, List.length_cons, List.length_nil]; try omega; done)) only [go_sem], ?_⟩
  obtain ⟨B2, e2⟩ := B1.step0 s2
  have st2 := st1.trans0 s2
  obtain ⟨r, hr⟩ : ∃ r, r = h1.size := ⟨_, rfl⟩
  rw [← hr] at hlt2 hz hcell
  have hnr : ¬ BldB h2 h.size r := fun hB => by
    have hB : BldB h1 h.size r := by
      rcases hB with hB | hB
      · exact .inl hB
      · exact .inr (by rw [e2] at hB; exact hB)
    have := (B1.ge hB).2
    omega
  simp (disch := first | omega | (simp only [e_ssz, e_psz, e_hszs, List.length_cons, List.length_nil]; try omega; done)) only [↓reduceIte, go_sem, ← hr]
  obtain ⟨I, hI⟩ : ∃ I : Nat → Env → H → Prop, I = fun i σ h' => σ 3 = .pointer (some ⟨h.size, 0, none⟩) ∧ σ 9 = .slice (some ⟨r, 0, none⟩) s.length cap ∧ σ 10 = .int .i64 s.length ∧ σ 11 = .int .i64 i ∧ i ≤ s.length ∧
    ∃ (u' : U), Step S0 u h u' h' ∧ Bu h.size u' h' h.size (34 :: quoB (s.take i)) ∧ r < h'.size ∧ ¬ BldB h' h.size r ∧ s.length ≤ hsz h' r ∧ ∀ (j : Nat) (b : UInt8), s[j]? = some b → Go.Ev.hv h' r j = .int .u8 b.toNat := ⟨_, rfl⟩
  refine wpS_loop I (fun i => s.length - i) 0 (by
    rw [hI]
    exact ⟨by simp [upd], by simp [upd], by simp [upd], by simp [upd], Nat.zero_le _, u2, st2, B2, hlt2, hnr, hz, hcell⟩) ?_
  clear hz hcell hnr B2 st2 s2 B1 st1 s1 hb1 e2 B0 sp hlt2 hr
  intro i σ h' hy
  rw [hI] at hy
  obtain ⟨e3, e9, e10, e11, hi, u', st, B, hrl, hnr, hz, hcell⟩ := hy
  obtain ⟨l, hl0⟩ : ∃ l, l = 34 :: quoB (s.take i) := ⟨_, rfl⟩
  have hl : l.length ≤ 1 + 4 * i := by
    have := (quoB_ln (s.take i)).1
    rw [List.length_take] at this
    rw [hl0, List.length_cons]; omega
  rw [← hl0] at B
  by_cases hlt : i < s.length
  · obtain ⟨c, hc⟩ : ∃ c, s[i]? = some c := ⟨s[i], by simp [hlt]⟩
    have hci := hcell i c hc
    have hc256 := c.toNat_lt
    have hnx : 34 :: quoB (s.take (i + 1)) = l ++ quoC c := by rw [quoB_take hc, hl0]; rfl
    have hdl : UInt8.toNat (UInt8.ofNat (letF c.toNat)) = letF c.toNat := ofNat_back (letF_lt c)
    -- the next round
    have next : ∀ (σ' : Env) (u3 : U) (h3 : H) (m : List UInt8), σ' 3 = σ 3 → σ' 9 = σ 9 → σ' 10 = σ 10 → σ' 11 = .int .i64 ((i : Int) + 1) → Step (BldB h' h.size) u' h' u3 h3 → Bu h.size u3 h3 h.size (l ++ m) → m = quoC c →
        (∀ j, BldB h3 h.size j → BldB h' h.size j ∨ h'.size ≤ j) → ∃ y, I y σ' h3 ∧ s.length - y < s.length - i := fun σ' u3 h3 m g3 g9 g10 g11 s3 B3 hm hb3 => by
      refine ⟨i + 1, ?_, by omega⟩
      rw [hI]
      obtain ⟨q1, q2⟩ := s3.same r hrl hnr
      refine ⟨by rw [g3, e3], by rw [g9, e9], by rw [g10, e10], g11, hlt, u3, st.trans s3 (fun j hj hB => by have := (B.ge hB).1; omega), by rw [hnx, ← hm]; exact B3, Nat.lt_of_lt_of_le hrl s3.ge.sz, fun hB => ?_, by rw [(s3.ge.hs r hrl).1]; exact hz, fun j b hb => by unfold Go.Ev.hv Go.Ev.hc; rw [q1]; exact hcell j b hb⟩
      rcases hb3 r hB with hB | hB
      · exact hnr hB
      · omega
    simp (disch := first | omega | (simp only [e_ssz, e_psz, e_hszs, List.length_cons, List.length_nil]; try omega; done)) only [↓reduceIte, go_sem, syQuoted_L1, e9, e10, e11, hlt, hci, Nat.mul_one]
    refine effS_call (.inl ⟨rfl, c, rfl, ⟨by simp (disch := first | omega | (simp only [e_ssz, e_psz, e_hszs, List.length_cons, List.length_nil]; try omega; done)) only [go_sem], ?_⟩⟩)
    obtain ⟨d, hd0⟩ : ∃ d : UInt8, letF c.toNat = d.toNat := ⟨_, hdl.symm⟩
    clear hdl
    simp only [hd0]
    by_cases hd : (d.toNat : Int) = 0
    · by_cases hp : 32 ≤ (c.toNat : Int) ∧ (c.toNat : Int) ≤ 126
      · simp (disch := first | omega | (simp only [e_ssz, e_psz, e_hszs, List.length_cons, List.length_nil]; try omega; done)) only [↓reduceIte, go_sem, e3, eq_true hd, eq_true hp.1, eq_true hp.2]
        refine effS_call (.inr (.inl ⟨rfl, _, c, rfl, h.size, u', h.size, l, rfl, B, by simp; omega, fun u3 h3 s3 B3 hb3 => ⟨by simp (disch := first | omega | (simp only [e_ssz, e_psz, e_hszs, List.length_cons, List.length_nil]; try omega; done)) only [go_sem], ?_⟩⟩))
        simp (disch := first | omega | (simp only [e_ssz, e_psz, e_hszs, List.length_cons, List.length_nil]; try omega; done)) only [↓reduceIte, go_sem, e11]
        exact next _ u3 h3 [c] (by simp [upd]) (by simp [upd]) (by simp [upd]) (by simp [upd]) s3 B3 (by unfold quoC; rw [if_neg (by omega), if_pos ⟨by omega, by omega⟩]) hb3
      · have hsh := nib_hi c.toNat hc256
        have hlo := nib_lo c.toNat hc256
        have chain : ∀ {ua ub uc : U} {ha hb hc : H}, Step (BldB ha h.size) ua ha ub hb → (∀ j, BldB hb h.size j → BldB ha h.size j ∨ ha.size ≤ j) → Step (BldB hb h.size) ub hb uc hc → (∀ j, BldB hc h.size j → BldB hb h.size j ∨ hb.size ≤ j) →
            Step (BldB ha h.size) ua ha uc hc ∧ ∀ j, BldB hc h.size j → BldB ha h.size j ∨ ha.size ≤ j := fun p1 p2 p3 p4 =>
          ⟨p1.trans p3 (fun j hj hB => (p2 j hB).elim id (fun h => by omega)), fun j hB => (p4 j hB).elim (p2 j) (fun h => .inr (Nat.le_trans p1.ge.sz h))⟩
        by_cases q : 32 ≤ (c.toNat : Int)
        · have q2 : ¬ (c.toNat : Int) ≤ 126 := fun h => hp ⟨q, h⟩
          simp (disch := first | omega | (simp only [e_ssz, e_psz, e_hszs, List.length_cons, List.length_nil]; try omega; done)) only [↓reduceIte, go_sem, e3, eq_true hd, eq_true q, eq_false q2]
          refine effS_call (.inr (.inr (.inl ⟨rfl, _, [92, 120], rfl, h.size, u', h.size, l, rfl, B, by simp; omega, fun u3 h3 s3 B3 hb3 => ⟨by simp (disch := first | omega | (simp only [e_ssz, e_psz, e_hszs, List.length_cons, List.length_nil]; try omega; done)) only [go_sem], ?_⟩⟩)))
          simp (disch := first | omega | (simp only [e_ssz, e_psz, e_hszs, List.length_cons, List.length_nil]; try omega; done)) only [↓reduceIte, go_sem, e3, eb_bits, eb_bitsc, isShift]
          refine ⟨hsh.1, hsh.2, ?_⟩
          refine effS_call (.inr (.inl ⟨rfl, _, _, rfl, h.size, u3, h.size, _, rfl, B3, by simp; omega, fun u4 h4 s4 B4 hb4 => ⟨by simp (disch := first | omega | (simp only [e_ssz, e_psz, e_hszs, List.length_cons, List.length_nil]; try omega; done)) only [go_sem], ?_⟩⟩))
          simp (disch := first | omega | (simp only [e_ssz, e_psz, e_hszs, List.length_cons, List.length_nil]; try omega; done)) only [↓reduceIte, go_sem, e3, eb_bits, eb_bitsc, isShift]
          refine ⟨hlo.1, hlo.2, ?_⟩
          refine effS_call (.inr (.inl ⟨rfl, _, _, rfl, h.size, u4, h.size, _, rfl, B4, by simp; omega, fun u5 h5 s5 B5 hb5 => ⟨by simp (disch := first | omega | (simp only [e_ssz, e_psz, e_hszs, List.length_cons, List.length_nil]; try omega; done)) only [go_sem], ?_⟩⟩))
          simp (disch := first | omega | (simp only [e_ssz, e_psz, e_hszs, List.length_cons, List.length_nil]; try omega; done)) only [↓reduceIte, go_sem, e11]
          obtain ⟨c1, c2⟩ := chain s3 hb3 s4 hb4
          obtain ⟨c3, c4⟩ := chain c1 c2 s5 hb5
          rw [List.append_assoc, List.append_assoc] at B5
          exact next _ u5 h5 _ (by simp [upd]) (by simp [upd]) (by simp [upd]) (by simp [upd]) c3 B5 (by unfold quoC; rw [if_neg (by omega), if_neg (by omega), ← dig_hi c.toNat hc256, ← dig_lo c.toNat hc256]; rfl) c4
        · simp (disch := first | omega | (simp only [e_ssz, e_psz, e_hszs, List.length_cons, List.length_nil]; try omega; done)) only [↓reduceIte, go_sem, e3, eq_true hd, eq_false q]
          refine effS_call (.inr (.inr (.inl ⟨rfl, _, [92, 120], rfl, h.size, u', h.size, l, rfl, B, by simp; omega, fun u3 h3 s3 B3 hb3 => ⟨by simp (disch := first | omega | (simp only [e_ssz, e_psz, e_hszs, List.length_cons, List.length_nil]; try omega; done)) only [go_sem], ?_⟩⟩)))
          simp (disch := first | omega | (simp only [e_ssz, e_psz, e_hszs, List.length_cons, List.length_nil]; try omega; done)) only [↓reduceIte, go_sem, e3, eb_bits, eb_bitsc, isShift]
          refine ⟨hsh.1, hsh.2, ?_⟩
          refine effS_call (.inr (.inl ⟨rfl, _, _, rfl, h.size, u3, h.size, _, rfl, B3, by simp; omega, fun u4 h4 s4 B4 hb4 => ⟨by simp (disch := first | omega | (simp only [e_ssz, e_psz, e_hszs, List.length_cons, List.length_nil]; try omega; done)) only [go_sem], ?_⟩⟩))
          simp (disch := first | omega | (simp only [e_ssz, e_psz, e_hszs, List.length_cons, List.length_nil]; try omega; done)) only [↓reduceIte, go_sem, e3, eb_bits, eb_bitsc, isShift]
          refine ⟨hlo.1, hlo.2, ?_⟩
          refine effS_call (.inr (.inl ⟨rfl, _, _, rfl, h.size, u4, h.size, _, rfl, B4, by simp; omega, fun u5 h5 s5 B5 hb5 => ⟨by simp (disch := first | omega | (simp only [e_ssz, e_psz, e_hszs, List.length_cons, List.length_nil]; try omega; done)) only [go_sem], ?_⟩⟩))
          simp (disch := first | omega | (simp only [e_ssz, e_psz, e_hszs, List.length_cons, List.length_nil]; try omega; done)) only [↓reduceIte, go_sem, e11]
          obtain ⟨c1, c2⟩ := chain s3 hb3 s4 hb4
          obtain ⟨c3, c4⟩ := chain c1 c2 s5 hb5
          rw [List.append_assoc, List.append_assoc] at B5
          exact next _ u5 h5 _ (by simp [upd]) (by simp [upd]) (by simp [upd]) (by simp [upd]) c3 B5 (by unfold quoC; rw [if_neg (by omega), if_neg (by omega), ← dig_hi c.toNat hc256, ← dig_lo c.toNat hc256]; rfl) c4
    · simp (disch := first | omega | (simp only [e_ssz, e_psz, e_hszs, List.length_cons, List.length_nil]; try omega; done)) only [↓reduceIte, go_sem, e3, eq_false hd]
      have sp : Step S0 u' h' (ub u' h'.size 2) (h'.push (.cells #[.int .u8 92, .int .u8 d.toNat] 5)) := Step.push S0 u' h' _ _ 2
      obtain ⟨B2, e2⟩ := B.step0 sp
      have hy := isY2 u' h' 5 92 d
      refine effS_call (.inr (.inr (.inr (.inl ⟨rfl, h.size, _, h.size, l, [92, d], _, rfl, B2, hy, by simp; omega, fun u3 h3 s3 B3 hb3 => ⟨by simp (disch := first | omega | (simp only [e_ssz, e_psz, e_hszs, List.length_cons, List.length_nil]; try omega; done)) only [go_sem], ?_⟩⟩))))
      simp (disch := first | omega | (simp only [e_ssz, e_psz, e_hszs, List.length_cons, List.length_nil]; try omega; done)) only [↓reduceIte, go_sem, e11]
      have eB : ∀ j, BldB (h'.push (.cells #[.int .u8 92, .int .u8 d.toNat] 5)) h.size j → BldB h' h.size j := fun j hB => hB.imp id fun hB => by rw [e2] at hB; exact hB
      exact next _ u3 h3 [92, d] (by simp [upd]) (by simp [upd]) (by simp [upd]) (by simp [upd]) ((sp.mono (S' := BldB h' h.size) (fun _ _ h => h.elim)).trans s3 (fun j _ hB => eB j hB)) B3 (by unfold quoC; rw [if_pos (by omega), hd0, UInt8.ofNat_toNat]) (fun j hB => (hb3 j hB).imp (eB j) (fun h => by simp at h; omega))
  · obtain rfl : i = s.length := by omega
    simp (disch := first | omega | (simp only [e_ssz, e_psz, e_hszs, List.length_cons, List.length_nil]; try omega; done)) only [↓reduceIte, go_sem, syQuoted_L1, e3, e10, e11]
    refine effS_call (.inr (.inl ⟨rfl, _, 34, rfl, h.size, u', h.size, l, rfl, B, by simp; omega, fun u3 h3 s3 B3 hb3 => ⟨by simp (disch := first | omega | (simp only [e_ssz, e_psz, e_hszs, List.length_cons, List.length_nil]; try omega; done)) only [go_sem], ?_⟩⟩))
    simp (disch := first | omega | (simp only [e_ssz, e_psz, e_hszs, List.length_cons, List.length_nil]; try omega; done)) only [↓reduceIte, go_sem, e3]
    have st3 : Step S0 u h u3 h3 := st.trans s3 (fun j hj hB => by have := (B.ge hB).1; omega)
    refine effS_call (.inr (.inr (.inr (.inr ⟨rfl, h.size, u3, h.size, _, rfl, B3, fun h4 hs4 hb4 => ⟨by simp (disch := first | omega | (simp only [e_ssz, e_psz, e_hszs, List.length_cons, List.length_nil]; try omega; done)) only [go_sem], ?_⟩⟩))))
    simp (disch := first | omega | (simp only [e_ssz, e_psz, e_hszs, List.length_cons, List.length_nil]; try omega; done)) only [↓reduceIte, go_sem]
    rw [hl0, List.take_length]
    exact hK u3 h4 (Step.below st3 hs4 hb4)
end Go.Proofs.YteiopegaiohglaaDoor
