/- The law LexNothing. -/
import Derived.Test.YtbkpmdgeeolifaaDoorLexO
namespace Go.Proofs.YtbkpmdgeeolifaaDoor
open Go Go.Ev Edict
theorem blank_a1 : blankF [97] 1 1 = true := by
  unfold blankF
  have e : ((([97] : List UInt8).take (1 : Int).toNat).drop (1 : Int).toNat) = [] := rfl
  rw [e, gap_end (s := []) (k := 0) (Nat.le_refl _)]
  decide
theorem blank_a0 : blankF [97] 0 1 = false := by
  unfold blankF
  have e : ((([97] : List UInt8).take (1 : Int).toNat).drop (0 : Int).toNat) = [97] := rfl
  rw [e, gap_at (by decide)]
  decide
def G_LexNothing : Ctr := fun f vs h K _ => (f = 21 ∧ C_scan vs h K) ∨ (f = 24 ∧ C_ended vs h K) ∨ (f = 29 ∧ C_lxBlank vs h K)
theorem G_LexNothing_ok : GOk Tryd.prog G_LexNothing := by
  rintro f vs h K KP (⟨rfl, hC⟩ | ⟨rfl, hC⟩ | ⟨rfl, hC⟩)
  · exact lxScan_ok hC
  · exact lwEnded_ok hC
  · exact lxBlank_ok hC
theorem LexNothing_ok {vs : List Value} {h : H} {K : Value → H → Prop} {KP : List PanicEntry → H → Prop} (hC : C_law1 vs h K) : HCX Tryd.prog 13 vs h K KP := by
  obtain ⟨u, s, rfl, hl, hG, hK⟩ := hC
  refine LexNothing_H G_LexNothing G_LexNothing_ok _ ?_
  have b1 := blank_a1
  have b0 := blank_a0
  simp (disch := first | omega | (simp only [e_ssz, e_psz, e_hszs, List.length_cons, List.length_nil]; try omega; done)) only [go_sem, LexNothing_S, LexNothing_E]
  refine effS_call (.inr (.inr ⟨rfl, [97], 1, 1, rfl, by simp, fun h1 x1 => ⟨by simp (disch := first | omega | (simp only [e_ssz, e_psz, e_hszs, List.length_cons, List.length_nil]; try omega; done)) only [go_sem], ?_⟩⟩))
  rw [b1]
  have s1 := Step.ofSame (u := u) x1.1 x1.2.1
  simp (disch := first | omega | (simp only [e_ssz, e_psz, e_hszs, List.length_cons, List.length_nil]; try omega; done)) only [↓reduceIte, go_sem]
  refine effS_call (.inr (.inr ⟨rfl, [97], 0, 1, rfl, by simp, fun h2 x2 => ⟨by simp (disch := first | omega | (simp only [e_ssz, e_psz, e_hszs, List.length_cons, List.length_nil]; try omega; done)) only [go_sem], ?_⟩⟩))
  rw [b0]
  have s2 := s1.trans0 (Step.ofSame (u := u) x2.1 x2.2.1)
  simp (disch := first | omega | (simp only [e_ssz, e_psz, e_hszs, List.length_cons, List.length_nil]; try omega; done)) only [↓reduceIte, go_sem]
  obtain ⟨c, hc⟩ : ∃ c, c = (scanF s).2.1 := ⟨_, rfl⟩
  obtain ⟨p, hp⟩ : ∃ p, p = (scanF s).2.2 := ⟨_, rfl⟩
  obtain ⟨L, hL⟩ : ∃ L, L = (scanF s).1 := ⟨_, rfl⟩
  have hF : scanF s = (L, c, p) := by rw [hL, hc, hp]
  have hlen := scanF_len s
  have hsh : c ≠ 0 ∨ c = 0 ∧ p = 0 ∧ Ended L s.length := by
    by_cases h16 : s.length ≤ 65536
    · rw [scanF_K h16] at hF
      exact (scan_shape (Nat.zero_le _) hF).imp (fun q => q.1) id
    · left
      have : scanF s = ([], 1, 0) := by unfold scanF; rw [if_pos (by omega)]
      rw [this] at hF; cases hF; decide
  have hid := idle_iff (s := s)
  rw [hF] at hid
  simp only at hid
  refine effS_call (.inl ⟨rfl, u, s, rfl, hl, hG.mono s2.ge, fun u3 h3 w3 s3 o3 => ⟨by simp (disch := first | omega | (simp only [e_ssz, e_psz, e_hszs, List.length_cons, List.length_nil]; try omega; done)) only [go_sem], ?_⟩⟩)
  rw [← hL] at o3 hlen
  rw [← hc, ← hp]
  obtain ⟨wa, wc, rfl, q1, q2⟩ := o3.sl
  have s3' := s2.trans0 s3
  have F4 := Blk.new (u := u3) (h := h3) (fltE c p) 25
  have s4 := Step.push0 S0 u3 h3 (fltE c p).toArray 25
  have o4 := (o3.step0 s4).isSl
  have st4 := s3'.trans0 s4
  simp only [fltE] at F4 s4 o4 st4
  simp only [fltE]
  simp (disch := first | omega | (simp only [e_ssz, e_psz, e_hszs, List.length_cons, List.length_nil]; try omega; done)) only [↓reduceIte, go_sem]
  obtain ⟨h4, hh4⟩ : ∃ h4, h4 = h3.push (.cells #[.int .i64 c, .int .i64 0, .int .i64 (p : Int)] 25) := ⟨_, rfl⟩
  obtain ⟨u4, hu4⟩ : ∃ u4, u4 = ub u3 h3.size 0 := ⟨_, rfl⟩
  rw [← hh4, ← hu4] at F4 o4 st4
  rw [← hh4]
  have F41 := F4.1
  refine effS_call (.inr (.inl ⟨rfl, u4, _, _, c, p, s.length, rfl, o4, hsh, fun u5 h5 s5 => ⟨by simp (disch := first | omega | (simp only [e_ssz, e_psz, e_hszs, List.length_cons, List.length_nil]; try omega; done)) only [go_sem], ?_⟩⟩))
  have st5 := st4.trans0 s5
  by_cases hc0 : c = 0
  case neg =>
    rw [decide_eq_false (fun q => hc0 q.1)] at hid
    simp (disch := first | omega | (simp only [e_ssz, e_psz, e_hszs, List.length_cons, List.length_nil]; try omega; done)) only [↓reduceIte, go_sem, hc0]
    refine effS_call (.inr (.inr ⟨rfl, s, 0, s.length, rfl, hl, fun h6 x6 => ⟨by simp (disch := first | omega | (simp only [e_ssz, e_psz, e_hszs, List.length_cons, List.length_nil]; try omega; done)) only [go_sem], ?_⟩⟩))
    rw [hid]
    simp (disch := first | omega | (simp only [e_ssz, e_psz, e_hszs, List.length_cons, List.length_nil]; try omega; done)) only [↓reduceIte, go_sem]
    exact hK _ _ (st5.trans0 (Step.ofSame x6.1 x6.2.1))
  by_cases hc1 : L.length = 1
  case neg =>
    rw [decide_eq_false (fun q => hc1 q.2)] at hid
    simp (disch := first | omega | (simp only [e_ssz, e_psz, e_hszs, List.length_cons, List.length_nil]; try omega; done)) only [↓reduceIte, go_sem, hc0, eq_false (show ¬ ((L.length : Nat) : Int) = 1 by omega)]
    refine effS_call (.inr (.inr ⟨rfl, s, 0, s.length, rfl, hl, fun h6 x6 => ⟨by simp (disch := first | omega | (simp only [e_ssz, e_psz, e_hszs, List.length_cons, List.length_nil]; try omega; done)) only [go_sem], ?_⟩⟩))
    rw [hid]
    simp (disch := first | omega | (simp only [e_ssz, e_psz, e_hszs, List.length_cons, List.length_nil]; try omega; done)) only [↓reduceIte, go_sem]
    exact hK _ _ (st5.trans0 (Step.ofSame x6.1 x6.2.1))
  rw [decide_eq_true ⟨hc0, hc1⟩] at hid
  have hb := hid
  unfold blankF at hb
  simp only [Bool.and_eq_true, decide_eq_true_eq, Int.toNat_natCast, Int.toNat_zero, List.drop_zero, List.take_length] at hb
  obtain ⟨⟨hl16, -, -, -⟩, hgap⟩ := hb
  simp (disch := first | omega | (simp only [e_ssz, e_psz, e_hszs, List.length_cons, List.length_nil]; try omega; done)) only [↓reduceIte, go_sem, hc0, eq_true (show ((L.length : Nat) : Int) = 1 by omega)]
  refine effS_call (.inr (.inr ⟨rfl, s, 0, s.length, rfl, hl, fun h6 x6 => ⟨by simp (disch := first | omega | (simp only [e_ssz, e_psz, e_hszs, List.length_cons, List.length_nil]; try omega; done)) only [go_sem], ?_⟩⟩))
  rw [hid]
  have st6 := st5.trans0 (Step.ofSame (u := u5) x6.1 x6.2.1)
  by_cases hbig : 65536 < 2 * s.length + 3
  · simp (disch := first | omega | (simp only [e_ssz, e_psz, e_hszs, List.length_cons, List.length_nil]; try omega; done)) only [↓reduceIte, go_sem, eq_true (show (65536 : Int) < 2 * ((s.length : Nat) : Int) + 3 by omega)]
    exact hK _ _ st6
  have hno := nothing_ends (by omega) hgap
  obtain ⟨x, hx⟩ : ∃ x, x = s ++ [10, 97, 10] ++ s := ⟨_, rfl⟩
  rw [← hx] at hno
  have hxl : x.length = 2 * s.length + 3 := by rw [hx]; simp; omega
  simp (disch := first | omega | (simp only [e_ssz, e_psz, e_hszs, List.length_cons, List.length_nil]; try omega; done)) only [↓reduceIte, go_sem, eq_false (show ¬ (65536 : Int) < 2 * ((s.length : Nat) : Int) + 3 by omega)]
  refine ⟨by omega, by omega, ?_⟩
  rw [← hx]
  refine effS_call (.inl ⟨rfl, u5, x, rfl, by omega, hG.mono st6.ge, fun u7 h7 w7 s7 o7 => ⟨by simp (disch := first | omega | (simp only [e_ssz, e_psz, e_hszs, List.length_cons, List.length_nil]; try omega; done)) only [go_sem], ?_⟩⟩)
  rw [hno] at o7 ⊢
  have e00 : ((0 : Nat) : Int) = 0 := rfl
  simp only [e00] at o7 ⊢
  obtain ⟨va, vc, rfl, k1, k2⟩ := o7.sl
  have B8 := Blk.new (u := u7) (h := h7) (fltE 0 0) 25
  have s8 := Step.push0 S0 u7 h7 (fltE 0 0).toArray 25
  have o8 := (o7.step0 s8).isSl
  have st8 := (st6.trans0 s7).trans0 s8
  simp only [fltE, List.length_cons, List.length_nil] at B8 s8 o8 st8 k1
  simp only [fltE, List.length_cons, List.length_nil]
  simp (disch := first | omega | (simp only [e_ssz, e_psz, e_hszs, List.length_cons, List.length_nil]; try omega; done)) only [↓reduceIte, go_sem]
  obtain ⟨h8, hh8⟩ : ∃ h8, h8 = h7.push (.cells #[.int .i64 0, .int .i64 0, .int .i64 0] 25) := ⟨_, rfl⟩
  obtain ⟨u8, hu8⟩ : ∃ u8, u8 = ub u7 h7.size 0 := ⟨_, rfl⟩
  rw [← hh8, ← hu8] at B8 o8 st8
  have B81 := B8.1
  simp (disch := first | omega | (simp only [e_ssz, e_psz, e_hszs, List.length_cons, List.length_nil]; try omega; done)) only [go_sem, ← hh8]
  refine effS_call (.inr (.inl ⟨rfl, u8, _, _, 0, 0, x.length, rfl, o8, .inr ⟨rfl, rfl, [_], rfl, fun t ht => by rw [List.mem_singleton.1 ht]; show (1 : Int) ≠ 0; decide⟩, fun u9 h9 s9 => ⟨by simp (disch := first | omega | (simp only [e_ssz, e_psz, e_hszs, List.length_cons, List.length_nil]; try omega; done)) only [go_sem], ?_⟩⟩))
  obtain ⟨qb, qo, rfl, hqb, hqu, hqz, hqr⟩ := (o8.mono s9.ge).row 0 _ rfl
  rw [rep_tok] at hqr
  simp only [tokE, sz_tok, hvs_6, List.cons.injEq, and_true, Nat.zero_mul, Nat.add_zero] at hqr hqu hqz
  obtain ⟨w0, w1, w2, w3, w4, w5⟩ := hqr
  have e1 : ((s.length : Nat) : Int) + 1 = ((s.length + 1 : Nat) : Int) := by omega
  have e2 : ((s.length + 1 : Nat) : Int) + 1 = ((s.length + 2 : Nat) : Int) := by omega
  simp (disch := first | omega | (simp only [e_ssz, e_psz, e_hszs, List.length_cons, List.length_nil]; try omega; done)) only [↓reduceIte, go_sem, w0, w1, w2, w3, w4, w5, e1, e2]
  exact hK _ _ (st8.trans0 s9)
theorem LexNothing_hc {s : List UInt8} {h : H} (hl : s.length ≤ 9223372036854775807) (hG : LxG (hsz h) h) : HCX Tryd.prog 13 [str s] h (fun v h' => v = .bool true ∧ Ext0 h h') fun _ _ => False :=
  LexNothing_ok ⟨hsz h, s, rfl, hl, hG, fun u' h' st => ⟨rfl, st.ext⟩⟩
end Go.Proofs.YtbkpmdgeeolifaaDoor
