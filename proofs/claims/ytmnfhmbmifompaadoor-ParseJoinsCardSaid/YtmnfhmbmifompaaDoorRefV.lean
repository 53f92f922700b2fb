/- The reference's texts in quotes, tokens, Scan. -/
import Derived.Test.YtmnfhmbmifompaaDoorRefU
import Derived.Test.YtmnfhmbmifompaaDoorLexS
namespace Go.Proofs.YtmnfhmbmifompaaDoor
open Go Go.Ev Edict
def G_rfQuoted : Ctr := fun f vs h K _ => (f = 141 ∧ C_resc vs h K) ∨ (f = 103 ∧ C_rfault vs h K)
theorem G_rfQuoted_ok : GOk Tryd.prog G_rfQuoted := by
  rintro f vs h K KP (⟨rfl, hC⟩ | ⟨rfl, hC⟩)
  · exact rfEscape_ok hC
  · exact rfFault_ok hC
theorem rfQuoted_ok {vs : List Value} {h : H} {K : Value → H → Prop} {KP : List PanicEntry → H → Prop} (hC : C_rtok (fun s k => txtF s k (k + 1) []) (fun s k => k < s.length) vs h K) : HCX Tryd.prog 128 vs h K KP := by
  obtain ⟨u, s, k, rfl, hk, hl, hlt, hK⟩ := hC
  have hK : ∀ u' h', Step S0 u h u' h' → K (resV (txtF s k (k + 1) [])) h' := hK
  refine rfQuoted_H G_rfQuoted G_rfQuoted_ok _ _ ?_
  have sp : Step S0 u h _ _ := Step.push0 S0 u h tok0.toArray 75
  have T0 : Blk (ub u h.size 0) (h.push (.cells tok0.toArray 75)) h.size tok0 := Blk.new tok0 _
  have sp1 := sp.pushR (c := (fltE 0 0).toArray) (t := 27)
  have T1 := T0.pushR (c := (fltE 0 0).toArray) (t := 27)
  have F1 := Blk.new (u := ub u h.size 0) (h := h.push (.cells tok0.toArray 75)) (fltE 0 0) 27
  simp only [e_psz] at sp1 T1 F1
  simp (disch := first | omega | (simp only [e_ssz, e_psz, e_hszs, List.length_cons, List.length_nil]; try omega; done)) only [↓reduceIte, go_sem, rfQuoted_S, rfQuoted_E]
  obtain ⟨I, hI⟩ : ∃ I : Nat × List UInt8 → Env → H → Prop, I = fun x σ h' => σ 0 = str s ∧ σ 1 = .int .i64 k ∧ σ 4 = .pointer (some ⟨h.size, 0, none⟩) ∧ σ 5 = .pointer (some ⟨h.size + 1, 0, none⟩) ∧ σ 7 = .int .i64 x.1 ∧ k < x.1 ∧ x.1 ≤ s.length ∧ x.2.length ≤ 255 ∧ txtF s k x.1 x.2 = txtF s k (k + 1) [] ∧
      ∃ u', Step S0 u h u' h' ∧ Blk u' h' h.size tok0 ∧ Blk u' h' (h.size + 1) (fltE 0 0) ∧ Own (h.size + 2) u' h' (σ 6) x.2 := ⟨_, rfl⟩
  refine wpS_loop I (fun x => s.length - x.1) (k + 1, []) (by
    rw [hI]
    exact ⟨by simp [upd], by simp [upd], by simp [upd], by simp [upd], by simp [upd], by simp, by simp only; omega, by simp, rfl, _, sp1, T1, F1, by simpa [upd] using Own.nil _ _ _⟩) ?_
  clear sp T0 sp1 T1 F1
  rintro ⟨i, acc⟩ σ h1 hy
  rw [hI] at hy
  obtain ⟨e0, e1, e4, e5, e7, hki, hi, hal, hF, u1, st, T, F, ho⟩ := hy
  simp only at hki hi hal hF ho e7
  rw [← hF] at hK
  have hT1 := T.1; have hF1 := F.1
  obtain ⟨oa, oc, hoe, ho1, ho2⟩ := ho.sl
  have ei : (i : Int) + 1 = ((i + 1 : Nat) : Int) := by omega
  by_cases h32 : i < s.length ∧ 32 ≤ bat s i
  · obtain ⟨hil, h32⟩ := h32
    by_cases h34 : bat s i = 34
    · rw [txt_end hil h34] at hK
      obtain ⟨r1, r2, r3, r4⟩ := res2 (la := [.int .i64 4, str acc, .int .i64 0, .int .i64 0, .int .i64 k, .int .i64 ((i + 1 : Nat))]) (lb := fltE 0 0) st T F (by omega) (by omega) (by omega) rfl rfl
      have T22 := T.2.1
      have F22 := F.2.1
      simp only [tok0, fltE, List.length_cons, List.length_nil] at r1 r2 r3 T22 F22
      simp (disch := first | omega | (simp only [e_ssz, e_psz, e_hszs, List.length_cons, List.length_nil]; try omega; done)) only [↓reduceIte, go_sem, rfQuoted_L1, e0, e7, eq_true hil, batf, eq_true (show (bat s i : Int) = 34 by omega), eq_false (show ¬ (bat s i : Int) < 32 by omega), eq_false (show ¬ (s.length : Int) ≤ (i : Int) by omega)]
      refine effS_b2s ho ⟨by simp (disch := first | omega | (simp only [e_ssz, e_psz, e_hszs, List.length_cons, List.length_nil]; try omega; done)) only [go_sem], ?_⟩
      simp (disch := first | omega | (simp only [e_ssz, e_psz, e_hszs, List.length_cons, List.length_nil]; try omega; done)) only [↓reduceIte, go_sem, e1, e4, e5, e7, ei, T22, T.2.2.1, F22, F.2.2.1, hsets_hsz, hsets_hfr, r2.at, r3.at, r2.2.1, r3.2.1]
      exact hK _ _ r1
    · by_cases h92 : bat s i = 92
      · rw [txt_esc hil h92] at hK
        simp (disch := first | omega | (simp only [e_ssz, e_psz, e_hszs, List.length_cons, List.length_nil]; try omega; done)) only [↓reduceIte, go_sem, rfQuoted_L1, e0, e7, batf, eq_true hil, eq_false (show ¬ (bat s i : Int) = 34 by omega), eq_true (show (bat s i : Int) = 92 by omega), eq_false (show ¬ (bat s i : Int) < 32 by omega), eq_false (show ¬ (s.length : Int) ≤ (i : Int) by omega)]
        refine effS_call (.inl ⟨rfl, s, i, rfl, hil, hl, ⟨by simp (disch := first | omega | (simp only [e_ssz, e_psz, e_hszs, List.length_cons, List.length_nil]; try omega; done)) only [go_sem], ?_⟩⟩)
        have hesc := esc_len s i
        have hc256 := esc_byte s i
        obtain ⟨⟨c, n⟩, hcn⟩ : ∃ x, x = escF s i := ⟨_, rfl⟩
        rw [← hcn] at hK hesc hc256 ⊢
        simp only at hK hesc hc256 ⊢
        by_cases hn0 : n = 0
        · rw [if_pos hn0] at hK
          simp (disch := first | omega | (simp only [e_ssz, e_psz, e_hszs, List.length_cons, List.length_nil]; try omega; done)) only [↓reduceIte, go_sem, e7, eq_true (show (n : Int) = 0 by omega)]
          refine effS_call (.inr ⟨rfl, u1, 12, i, rfl, fun u4 h4 s4 => ⟨by simp (disch := first | omega | (simp only [e_ssz, e_psz, e_hszs, List.length_cons, List.length_nil]; try omega; done)) only [go_sem], ?_⟩⟩)
          have T4 := T.step0 s4
          have F4 := F.step0 s4
          obtain ⟨r1, r2, r3, -⟩ := res2 (la := tok0) (lb := fltE 12 i) (st.trans0 s4) T4 F4 (by omega) (by omega) (by omega) rfl rfl
          have T41 := T4.1
          have F41 := F4.1
          simp only [tok0, fltE] at r1 r2 r3
          simp (disch := first | omega | (simp only [e_ssz, e_psz, e_hszs, List.length_cons, List.length_nil]; try omega; done)) only [↓reduceIte, go_sem, e4, e5, tok0, fltE, T4.2.1, T4.2.2.1, F4.2.1, F4.2.2.1, hsets_hsz, hsets_hfr, r2.at, r3.at, r2.2.1, r3.2.1]
          exact hK _ _ r1
        · rw [if_neg hn0] at hK
          by_cases h255 : acc.length = 255
          · rw [if_pos h255] at hK
            simp (disch := first | omega | (simp only [e_ssz, e_psz, e_hszs, List.length_cons, List.length_nil]; try omega; done)) only [↓reduceIte, go_sem, e1, hoe, eq_false (show ¬ (n : Int) = 0 by omega), eq_true (show (acc.length : Int) = 255 by omega)]
            refine effS_call (.inr ⟨rfl, u1, 15, k, rfl, fun u4 h4 s4 => ⟨by simp (disch := first | omega | (simp only [e_ssz, e_psz, e_hszs, List.length_cons, List.length_nil]; try omega; done)) only [go_sem], ?_⟩⟩)
            have T4 := T.step0 s4
            have F4 := F.step0 s4
            obtain ⟨r1, r2, r3, -⟩ := res2 (la := tok0) (lb := fltE 15 k) (st.trans0 s4) T4 F4 (by omega) (by omega) (by omega) rfl rfl
            have T41 := T4.1
            have F41 := F4.1
            simp only [tok0, fltE] at r1 r2 r3
            simp (disch := first | omega | (simp only [e_ssz, e_psz, e_hszs, List.length_cons, List.length_nil]; try omega; done)) only [↓reduceIte, go_sem, e4, e5, tok0, fltE, T4.2.1, T4.2.2.1, F4.2.1, F4.2.2.1, hsets_hsz, hsets_hfr, r2.at, r3.at, r2.2.1, r3.2.1]
            exact hK _ _ r1
          · rw [if_neg h255] at hK
            have hnx : txtF s k i acc = txtF s k (i + n) (acc ++ [UInt8.ofNat c]) := by rw [txt_esc hil h92, ← hcn]; simp only; rw [if_neg hn0, if_neg h255]
            simp (disch := first | omega | (simp only [e_ssz, e_psz, e_hszs, List.length_cons, List.length_nil]; try omega; done)) only [↓reduceIte, go_sem, hoe, eq_false (show ¬ (n : Int) = 0 by omega), eq_false (show ¬ (acc.length : Int) = 255 by omega)]
            rw [← hoe]
            refine effS_app1 (k := h.size + 2) (x := UInt8.ofNat (c)) (cs := [.int .u8 (c : Nat)]) ho (by rw [rep_byte, byte_back hc256]) rfl rfl (by omega) (by omega) fun a n' k' u2 h2 ho2 s2 => ⟨by simp (disch := first | omega | (simp only [e_ssz, e_psz, e_hszs, List.length_cons, List.length_nil]; try omega; done)) only [go_sem], ?_⟩
            have hnb : ∀ q, OwnB (σ 6) q → h.size + 2 ≤ q := fun q hq => ho.ge hq
            have T2 := T.step s2 (fun hq => by have := hnb _ hq; omega)
            have F2 := F.step s2 (fun hq => by have := hnb _ hq; omega)
            have st2 := st.trans s2 (fun q hq hQ => by have := hnb _ hQ; omega)
            simp (disch := first | omega | (simp only [e_ssz, e_psz, e_hszs, List.length_cons, List.length_nil]; try omega; done)) only [↓reduceIte, go_sem, e7]
            refine ⟨(i + (n), acc ++ [UInt8.ofNat (c)]), ?_, by simp only; omega⟩
            rw [hI]
            exact ⟨by simp [upd, e0], by simp [upd, e1], by simp [upd, e4], by simp [upd, e5], by simp [upd], by simp only; omega, by simp only; omega, by simp; omega, hnx.symm.trans hF, u2, st2, T2, F2, by simpa [upd] using ho2⟩
      · rw [txt_on hil h32 h34 h92] at hK
        have hc256 := bat_lt s i
        by_cases h255 : acc.length = 255
        · rw [if_pos h255] at hK
          simp (disch := first | omega | (simp only [e_ssz, e_psz, e_hszs, List.length_cons, List.length_nil]; try omega; done)) only [↓reduceIte, go_sem, rfQuoted_L1, e0, e1, e7, hoe, batf, eq_true hil, eq_false (show ¬ (bat s i : Int) = 34 by omega), eq_false (show ¬ (bat s i : Int) = 92 by omega), eq_false (show ¬ (bat s i : Int) < 32 by omega), eq_false (show ¬ (s.length : Int) ≤ (i : Int) by omega), eq_true (show (acc.length : Int) = 255 by omega)]
          refine effS_call (.inr ⟨rfl, u1, 15, k, rfl, fun u4 h4 s4 => ⟨by simp (disch := first | omega | (simp only [e_ssz, e_psz, e_hszs, List.length_cons, List.length_nil]; try omega; done)) only [go_sem], ?_⟩⟩)
          have T4 := T.step0 s4
          have F4 := F.step0 s4
          obtain ⟨r1, r2, r3, -⟩ := res2 (la := tok0) (lb := fltE 15 k) (st.trans0 s4) T4 F4 (by omega) (by omega) (by omega) rfl rfl
          have T41 := T4.1
          have F41 := F4.1
          simp only [tok0, fltE] at r1 r2 r3
          simp (disch := first | omega | (simp only [e_ssz, e_psz, e_hszs, List.length_cons, List.length_nil]; try omega; done)) only [↓reduceIte, go_sem, e4, e5, tok0, fltE, T4.2.1, T4.2.2.1, F4.2.1, F4.2.2.1, hsets_hsz, hsets_hfr, r2.at, r3.at, r2.2.1, r3.2.1]
          exact hK _ _ r1
        · rw [if_neg h255] at hK
          have hnx : txtF s k i acc = txtF s k (i + 1) (acc ++ [UInt8.ofNat (bat s i)]) := by rw [txt_on hil h32 h34 h92, if_neg h255]
          simp (disch := first | omega | (simp only [e_ssz, e_psz, e_hszs, List.length_cons, List.length_nil]; try omega; done)) only [↓reduceIte, go_sem, rfQuoted_L1, e0, e7, hoe, batf, eq_true hil, eq_false (show ¬ (bat s i : Int) = 34 by omega), eq_false (show ¬ (bat s i : Int) = 92 by omega), eq_false (show ¬ (bat s i : Int) < 32 by omega), eq_false (show ¬ (s.length : Int) ≤ (i : Int) by omega), eq_false (show ¬ (acc.length : Int) = 255 by omega)]
          rw [← hoe]
          refine effS_app1 (k := h.size + 2) (x := UInt8.ofNat (bat s i)) (cs := [.int .u8 (bat s i : Nat)]) ho (by rw [rep_byte, byte_back hc256]) rfl rfl (by omega) (by omega) fun a n' k' u2 h2 ho2 s2 => ⟨by simp (disch := first | omega | (simp only [e_ssz, e_psz, e_hszs, List.length_cons, List.length_nil]; try omega; done)) only [go_sem], ?_⟩
          have hnb : ∀ q, OwnB (σ 6) q → h.size + 2 ≤ q := fun q hq => ho.ge hq
          have T2 := T.step s2 (fun hq => by have := hnb _ hq; omega)
          have F2 := F.step s2 (fun hq => by have := hnb _ hq; omega)
          have st2 := st.trans s2 (fun q hq hQ => by have := hnb _ hQ; omega)
          simp (disch := first | omega | (simp only [e_ssz, e_psz, e_hszs, List.length_cons, List.length_nil]; try omega; done)) only [↓reduceIte, go_sem, e7]
          refine ⟨(i + (1), acc ++ [UInt8.ofNat (bat s i)]), ?_, by simp only; omega⟩
          rw [hI]
          exact ⟨by simp [upd, e0], by simp [upd, e1], by simp [upd, e4], by simp [upd, e5], by simp [upd], by simp only; omega, by simp only; omega, by simp; omega, hnx.symm.trans hF, u2, st2, T2, F2, by simpa [upd] using ho2⟩
  · rw [txt_bad h32] at hK
    by_cases hil : i < s.length
    · simp (disch := first | omega | (simp only [e_ssz, e_psz, e_hszs, List.length_cons, List.length_nil]; try omega; done)) only [↓reduceIte, go_sem, rfQuoted_L1, e0, e1, e7, batf, eq_true hil, eq_true (show (bat s i : Int) < 32 by omega), eq_false (show ¬ (s.length : Int) ≤ (i : Int) by omega)]
      refine effS_call (.inr ⟨rfl, u1, 11, k, rfl, fun u4 h4 s4 => ⟨by simp (disch := first | omega | (simp only [e_ssz, e_psz, e_hszs, List.length_cons, List.length_nil]; try omega; done)) only [go_sem], ?_⟩⟩)
      have T4 := T.step0 s4
      have F4 := F.step0 s4
      obtain ⟨r1, r2, r3, -⟩ := res2 (la := tok0) (lb := fltE 11 k) (st.trans0 s4) T4 F4 (by omega) (by omega) (by omega) rfl rfl
      have T41 := T4.1
      have F41 := F4.1
      simp only [tok0, fltE] at r1 r2 r3
      simp (disch := first | omega | (simp only [e_ssz, e_psz, e_hszs, List.length_cons, List.length_nil]; try omega; done)) only [↓reduceIte, go_sem, e4, e5, tok0, fltE, T4.2.1, T4.2.2.1, F4.2.1, F4.2.2.1, hsets_hsz, hsets_hfr, r2.at, r3.at, r2.2.1, r3.2.1]
      exact hK _ _ r1
    · simp (disch := first | omega | (simp only [e_ssz, e_psz, e_hszs, List.length_cons, List.length_nil]; try omega; done)) only [↓reduceIte, go_sem, rfQuoted_L1, e0, e1, e7, batf, eq_true (show (s.length : Int) ≤ (i : Int) by omega)]
      refine effS_call (.inr ⟨rfl, u1, 11, k, rfl, fun u4 h4 s4 => ⟨by simp (disch := first | omega | (simp only [e_ssz, e_psz, e_hszs, List.length_cons, List.length_nil]; try omega; done)) only [go_sem], ?_⟩⟩)
      have T4 := T.step0 s4
      have F4 := F.step0 s4
      obtain ⟨r1, r2, r3, -⟩ := res2 (la := tok0) (lb := fltE 11 k) (st.trans0 s4) T4 F4 (by omega) (by omega) (by omega) rfl rfl
      have T41 := T4.1
      have F41 := F4.1
      simp only [tok0, fltE] at r1 r2 r3
      simp (disch := first | omega | (simp only [e_ssz, e_psz, e_hszs, List.length_cons, List.length_nil]; try omega; done)) only [↓reduceIte, go_sem, e4, e5, tok0, fltE, T4.2.1, T4.2.2.1, F4.2.1, F4.2.2.1, hsets_hsz, hsets_hfr, r2.at, r3.at, r2.2.1, r3.2.1]
      exact hK _ _ r1
def G_rfToken : Ctr := fun f vs h K _ => (f = 123 ∧ C_b loB vs h K) ∨ (f = 124 ∧ C_b upB vs h K) ∨ (f = 126 ∧ C_b dgB vs h K) ∨ (f = 125 ∧ C_rtok wordF (fun s k => k < s.length ∧ wdB (bat s k) = true) vs h K) ∨
  (f = 127 ∧ C_rint vs h K) ∨ (f = 128 ∧ C_rtok (fun s k => txtF s k (k + 1) []) (fun s k => k < s.length) vs h K) ∨ (f = 129 ∧ C_rtok signF (fun s k => k < s.length) vs h K)
theorem G_rfToken_ok : GOk Tryd.prog G_rfToken := by
  rintro f vs h K KP (⟨rfl, hC⟩ | ⟨rfl, hC⟩ | ⟨rfl, hC⟩ | ⟨rfl, hC⟩ | ⟨rfl, hC⟩ | ⟨rfl, hC⟩ | ⟨rfl, hC⟩)
  · exact rfLower_ok hC
  · exact rfUpper_ok hC
  · exact rfDigit_ok hC
  · exact rfWord_ok hC
  · exact rfInteger_ok hC
  · exact rfQuoted_ok hC
  · exact rfSign_ok hC
theorem rfToken_ok {vs : List Value} {h : H} {K : Value → H → Prop} {KP : List PanicEntry → H → Prop} (hC : C_rtok tokF (fun _ _ => True) vs h K) : HCX Tryd.prog 105 vs h K KP := by
  obtain ⟨u, s, k, rfl, hk, hl, -, hK⟩ := hC
  refine rfToken_H G_rfToken G_rfToken_ok _ _ ?_
  have sp : Step S0 u h _ _ := Step.push0 S0 u h tok0.toArray 75
  have T0 : Blk (ub u h.size 0) (h.push (.cells tok0.toArray 75)) h.size tok0 := Blk.new tok0 _
  have sp1 := sp.pushR (c := (fltE 0 0).toArray) (t := 27)
  have T1 := T0.pushR (c := (fltE 0 0).toArray) (t := 27)
  have F1 := Blk.new (u := ub u h.size 0) (h := h.push (.cells tok0.toArray 75)) (fltE 0 0) 27
  simp only [e_psz] at sp1 T1 F1
  by_cases hlt : k < s.length
  case neg =>
    have ht : tokF s k = .ok (0, [], 0, 0, k, k) := by unfold tokF; rw [if_pos (by omega)]
    rw [ht] at hK
    simp (disch := first | omega | (simp only [e_ssz, e_psz, e_hszs, List.length_cons, List.length_nil]; try omega; done)) only [↓reduceIte, go_sem, rfToken_S, rfToken_E, eq_true (show (s.length : Int) ≤ (k : Int) by omega)]
    exact hK _ _ (by repeat (first | exact Step.refl _ _ _ | assumption | apply Step.pushR))
  rw [tok_in hlt] at hK
  obtain ⟨c, hc⟩ : ∃ c, c = bat s k := ⟨_, rfl⟩
  have hbc : (s.getD k 0).toNat = c := by rw [hc]; rfl
  rw [← hc] at hK
  have hc1 : ((k : Int) + 1) = ((k + 1 : Nat) : Int) := by omega
  simp (disch := first | omega | (simp only [e_ssz, e_psz, e_hszs, List.length_cons, List.length_nil]; try omega; done)) only [↓reduceIte, go_sem, rfToken_S, rfToken_E, eq_false (show ¬ (s.length : Int) ≤ (k : Int) by omega), hlt, hbc]
  refine effS_call (.inl ⟨rfl, c, rfl, ⟨by simp (disch := first | omega | (simp only [e_ssz, e_psz, e_hszs, List.length_cons, List.length_nil]; try omega; done)) only [go_sem], ?_⟩⟩)
  have word : wdB c = true → ¬ (c = 45 ∧ dgB (bat s (k + 1)) = true) → dgB c = false → (∀ u' h', Step S0 u h u' h' → K (resV (wordF s k)) h') := fun q1 q2 q3 => by
    rw [q3] at hK; simp only [Bool.false_eq_true, if_false] at hK
    rw [if_neg q2, q1] at hK; simpa using hK
  cases h1 : loB c with
  | true =>
    have hd : dgB c = false := by unfold loB at h1; unfold dgB; simp at h1 ⊢; omega
    have hK := word (by unfold wdB; rw [h1]; simp) (by rintro ⟨q, -⟩; rw [q] at h1; simp [loB] at h1) hd
    simp (disch := first | omega | (simp only [e_ssz, e_psz, e_hszs, List.length_cons, List.length_nil]; try omega; done)) only [↓reduceIte, go_sem]
    refine effS_call (.inr (.inr (.inr (.inl ⟨rfl, (ub (ub u h.size 0) (h.size + 1) 0), s, k, rfl, hk, hl, ⟨hlt, by rw [← hc]; unfold wdB; rw [h1]; simp⟩, fun u3 h3 s3 => ?_⟩))))
    have st3 := sp1.trans0 s3
    have T3 := T1.step0 s3
    have F3 := F1.step0 s3
    have T31 := T3.1
    have F31 := F3.1
    have T32 := T3.2.1
    have F32 := F3.2.1
    simp only [tok0, fltE, List.length_cons, List.length_nil] at T32 F32
    cases hr : wordF s k with
    | ok t =>
      rw [hr] at hK
      obtain ⟨r1, r2, r3, r4⟩ := res2 (la := tokE t) (lb := fltE 0 0) st3 T3 F3 (by omega) (by omega) (by omega) rfl rfl
      simp only [tokE, fltE] at r1 r2 r3
      refine ⟨by simp (disch := first | omega | (simp only [e_ssz, e_psz, e_hszs, List.length_cons, List.length_nil]; try omega; done)) only [go_sem], ?_⟩
      simp only [resV, tokE, fltE]
      simp (disch := first | omega | (simp only [e_ssz, e_psz, e_hszs, List.length_cons, List.length_nil]; try omega; done)) only [↓reduceIte, go_sem, T32, T3.2.2.1, F32, F3.2.2.1, hsets_hsz, hsets_hfr, r2.at, r3.at, r2.2.1, r3.2.1]
      exact hK _ _ r1
    | bad c o' =>
      rw [hr] at hK
      obtain ⟨r1, r2, r3, -⟩ := res2 (la := tok0) (lb := fltE c o') st3 T3 F3 (by omega) (by omega) (by omega) rfl rfl
      simp only [tok0, fltE] at r1 r2 r3
      refine ⟨by simp (disch := first | omega | (simp only [e_ssz, e_psz, e_hszs, List.length_cons, List.length_nil]; try omega; done)) only [go_sem], ?_⟩
      simp only [resV, tok0, fltE]
      simp (disch := first | omega | (simp only [e_ssz, e_psz, e_hszs, List.length_cons, List.length_nil]; try omega; done)) only [↓reduceIte, go_sem, T32, T3.2.2.1, F32, F3.2.2.1, hsets_hsz, hsets_hfr, r2.at, r3.at, r2.2.1, r3.2.1]
      exact hK _ _ r1
  | false =>
    simp (disch := first | omega | (simp only [e_ssz, e_psz, e_hszs, List.length_cons, List.length_nil]; try omega; done)) only [↓reduceIte, go_sem]
    refine effS_call (.inr (.inl ⟨rfl, c, rfl, ⟨by simp (disch := first | omega | (simp only [e_ssz, e_psz, e_hszs, List.length_cons, List.length_nil]; try omega; done)) only [go_sem], ?_⟩⟩))
    cases h2 : upB c with
    | true =>
      have hd : dgB c = false := by unfold upB at h2; unfold dgB; simp at h2 ⊢; omega
      have hK := word (by unfold wdB; rw [h2]; simp) (by rintro ⟨q, -⟩; rw [q] at h2; simp [upB] at h2) hd
      simp (disch := first | omega | (simp only [e_ssz, e_psz, e_hszs, List.length_cons, List.length_nil]; try omega; done)) only [↓reduceIte, go_sem]
      refine effS_call (.inr (.inr (.inr (.inl ⟨rfl, (ub (ub u h.size 0) (h.size + 1) 0), s, k, rfl, hk, hl, ⟨hlt, by rw [← hc]; unfold wdB; rw [h2]; simp⟩, fun u3 h3 s3 => ?_⟩))))
      have st3 := sp1.trans0 s3
      have T3 := T1.step0 s3
      have F3 := F1.step0 s3
      have T31 := T3.1
      have F31 := F3.1
      have T32 := T3.2.1
      have F32 := F3.2.1
      simp only [tok0, fltE, List.length_cons, List.length_nil] at T32 F32
      cases hr : wordF s k with
      | ok t =>
        rw [hr] at hK
        obtain ⟨r1, r2, r3, r4⟩ := res2 (la := tokE t) (lb := fltE 0 0) st3 T3 F3 (by omega) (by omega) (by omega) rfl rfl
        simp only [tokE, fltE] at r1 r2 r3
        refine ⟨by simp (disch := first | omega | (simp only [e_ssz, e_psz, e_hszs, List.length_cons, List.length_nil]; try omega; done)) only [go_sem], ?_⟩
        simp only [resV, tokE, fltE]
        simp (disch := first | omega | (simp only [e_ssz, e_psz, e_hszs, List.length_cons, List.length_nil]; try omega; done)) only [↓reduceIte, go_sem, T32, T3.2.2.1, F32, F3.2.2.1, hsets_hsz, hsets_hfr, r2.at, r3.at, r2.2.1, r3.2.1]
        exact hK _ _ r1
      | bad c o' =>
        rw [hr] at hK
        obtain ⟨r1, r2, r3, -⟩ := res2 (la := tok0) (lb := fltE c o') st3 T3 F3 (by omega) (by omega) (by omega) rfl rfl
        simp only [tok0, fltE] at r1 r2 r3
        refine ⟨by simp (disch := first | omega | (simp only [e_ssz, e_psz, e_hszs, List.length_cons, List.length_nil]; try omega; done)) only [go_sem], ?_⟩
        simp only [resV, tok0, fltE]
        simp (disch := first | omega | (simp only [e_ssz, e_psz, e_hszs, List.length_cons, List.length_nil]; try omega; done)) only [↓reduceIte, go_sem, T32, T3.2.2.1, F32, F3.2.2.1, hsets_hsz, hsets_hfr, r2.at, r3.at, r2.2.1, r3.2.1]
        exact hK _ _ r1
    | false =>
      by_cases h95 : c = 95
      · have hK := word (by unfold wdB; rw [h95]; simp) (by rintro ⟨q, -⟩; omega) (by rw [h95]; decide)
        simp (disch := first | omega | (simp only [e_ssz, e_psz, e_hszs, List.length_cons, List.length_nil]; try omega; done)) only [↓reduceIte, go_sem, eq_true (show (c : Int) = 95 by omega)]
        refine effS_call (.inr (.inr (.inr (.inl ⟨rfl, (ub (ub u h.size 0) (h.size + 1) 0), s, k, rfl, hk, hl, ⟨hlt, by rw [← hc]; unfold wdB; rw [h95]; simp⟩, fun u3 h3 s3 => ?_⟩))))
        have st3 := sp1.trans0 s3
        have T3 := T1.step0 s3
        have F3 := F1.step0 s3
        have T31 := T3.1
        have F31 := F3.1
        have T32 := T3.2.1
        have F32 := F3.2.1
        simp only [tok0, fltE, List.length_cons, List.length_nil] at T32 F32
        cases hr : wordF s k with
        | ok t =>
          rw [hr] at hK
          obtain ⟨r1, r2, r3, r4⟩ := res2 (la := tokE t) (lb := fltE 0 0) st3 T3 F3 (by omega) (by omega) (by omega) rfl rfl
          simp only [tokE, fltE] at r1 r2 r3
          refine ⟨by simp (disch := first | omega | (simp only [e_ssz, e_psz, e_hszs, List.length_cons, List.length_nil]; try omega; done)) only [go_sem], ?_⟩
          simp only [resV, tokE, fltE]
          simp (disch := first | omega | (simp only [e_ssz, e_psz, e_hszs, List.length_cons, List.length_nil]; try omega; done)) only [↓reduceIte, go_sem, T32, T3.2.2.1, F32, F3.2.2.1, hsets_hsz, hsets_hfr, r2.at, r3.at, r2.2.1, r3.2.1]
          exact hK _ _ r1
        | bad c o' =>
          rw [hr] at hK
          obtain ⟨r1, r2, r3, -⟩ := res2 (la := tok0) (lb := fltE c o') st3 T3 F3 (by omega) (by omega) (by omega) rfl rfl
          simp only [tok0, fltE] at r1 r2 r3
          refine ⟨by simp (disch := first | omega | (simp only [e_ssz, e_psz, e_hszs, List.length_cons, List.length_nil]; try omega; done)) only [go_sem], ?_⟩
          simp only [resV, tok0, fltE]
          simp (disch := first | omega | (simp only [e_ssz, e_psz, e_hszs, List.length_cons, List.length_nil]; try omega; done)) only [↓reduceIte, go_sem, T32, T3.2.2.1, F32, F3.2.2.1, hsets_hsz, hsets_hfr, r2.at, r3.at, r2.2.1, r3.2.1]
          exact hK _ _ r1
      · simp (disch := first | omega | (simp only [e_ssz, e_psz, e_hszs, List.length_cons, List.length_nil]; try omega; done)) only [↓reduceIte, go_sem, eq_false (show ¬ (c : Int) = 95 by omega)]
        refine effS_call (.inr (.inr (.inl ⟨rfl, c, rfl, ⟨by simp (disch := first | omega | (simp only [e_ssz, e_psz, e_hszs, List.length_cons, List.length_nil]; try omega; done)) only [go_sem], ?_⟩⟩)))
        cases hd : dgB c with
        | true =>
          rw [hd, if_pos rfl] at hK
          simp (disch := first | omega | (simp only [e_ssz, e_psz, e_hszs, List.length_cons, List.length_nil]; try omega; done)) only [↓reduceIte, go_sem]
          refine effS_call (.inr (.inr (.inr (.inr (.inl ⟨rfl, (ub (ub u h.size 0) (h.size + 1) 0), s, k, k, rfl, Nat.le_refl _, hlt, hl, by rw [← hc]; exact hd, fun u3 h3 s3 => ?_⟩)))))
          have st3 := sp1.trans0 s3
          have T3 := T1.step0 s3
          have F3 := F1.step0 s3
          have T31 := T3.1
          have F31 := F3.1
          have T32 := T3.2.1
          have F32 := F3.2.1
          simp only [tok0, fltE, List.length_cons, List.length_nil] at T32 F32
          cases hr : intF s k k with
          | ok t =>
            rw [hr] at hK
            obtain ⟨r1, r2, r3, r4⟩ := res2 (la := tokE t) (lb := fltE 0 0) st3 T3 F3 (by omega) (by omega) (by omega) rfl rfl
            simp only [tokE, fltE] at r1 r2 r3
            refine ⟨by simp (disch := first | omega | (simp only [e_ssz, e_psz, e_hszs, List.length_cons, List.length_nil]; try omega; done)) only [go_sem], ?_⟩
            simp only [resV, tokE, fltE]
            simp (disch := first | omega | (simp only [e_ssz, e_psz, e_hszs, List.length_cons, List.length_nil]; try omega; done)) only [↓reduceIte, go_sem, T32, T3.2.2.1, F32, F3.2.2.1, hsets_hsz, hsets_hfr, r2.at, r3.at, r2.2.1, r3.2.1]
            exact hK _ _ r1
          | bad c o' =>
            rw [hr] at hK
            obtain ⟨r1, r2, r3, -⟩ := res2 (la := tok0) (lb := fltE c o') st3 T3 F3 (by omega) (by omega) (by omega) rfl rfl
            simp only [tok0, fltE] at r1 r2 r3
            refine ⟨by simp (disch := first | omega | (simp only [e_ssz, e_psz, e_hszs, List.length_cons, List.length_nil]; try omega; done)) only [go_sem], ?_⟩
            simp only [resV, tok0, fltE]
            simp (disch := first | omega | (simp only [e_ssz, e_psz, e_hszs, List.length_cons, List.length_nil]; try omega; done)) only [↓reduceIte, go_sem, T32, T3.2.2.1, F32, F3.2.2.1, hsets_hsz, hsets_hfr, r2.at, r3.at, r2.2.1, r3.2.1]
            exact hK _ _ r1
        | false =>
          have hw : wdB c = false := by unfold wdB; rw [hd, h2, h1, decide_eq_false h95]; rfl
          rw [hd] at hK
          simp only [Bool.false_eq_true, if_false] at hK
          have rest : ¬ (c = 45 ∧ dgB (bat s (k + 1)) = true) → ∀ u' h', Step S0 u h u' h' → K (resV (if c = 34 then txtF s k (k + 1) [] else signF s k)) h' := fun q => by
            rw [if_neg q, hw] at hK; simpa using hK
          by_cases hm : c = 45
          · by_cases hl1 : k + 1 < s.length
            · simp (disch := first | omega | (simp only [e_ssz, e_psz, e_hszs, List.length_cons, List.length_nil]; try omega; done)) only [↓reduceIte, go_sem, eq_true (show (c : Int) = 45 by omega), hc1, hl1, batf]
              refine effS_call (.inr (.inr (.inl ⟨rfl, bat s (k + 1), rfl, ⟨by simp (disch := first | omega | (simp only [e_ssz, e_psz, e_hszs, List.length_cons, List.length_nil]; try omega; done)) only [go_sem], ?_⟩⟩)))
              cases hd1 : dgB (bat s (k + 1)) with
              | true =>
                rw [if_pos ⟨hm, hd1⟩] at hK
                simp (disch := first | omega | (simp only [e_ssz, e_psz, e_hszs, List.length_cons, List.length_nil]; try omega; done)) only [↓reduceIte, go_sem, eq_true (show (c : Int) = 45 by omega), hc1, hl1]
                refine effS_call (.inr (.inr (.inr (.inr (.inl ⟨rfl, (ub (ub u h.size 0) (h.size + 1) 0), s, k, k + 1, rfl, by omega, hl1, hl, hd1, fun u3 h3 s3 => ?_⟩)))))
                have st3 := sp1.trans0 s3
                have T3 := T1.step0 s3
                have F3 := F1.step0 s3
                have T31 := T3.1
                have F31 := F3.1
                have T32 := T3.2.1
                have F32 := F3.2.1
                simp only [tok0, fltE, List.length_cons, List.length_nil] at T32 F32
                cases hr : intF s k (k + 1) with
                | ok t =>
                  rw [hr] at hK
                  obtain ⟨r1, r2, r3, r4⟩ := res2 (la := tokE t) (lb := fltE 0 0) st3 T3 F3 (by omega) (by omega) (by omega) rfl rfl
                  simp only [tokE, fltE] at r1 r2 r3
                  refine ⟨by simp (disch := first | omega | (simp only [e_ssz, e_psz, e_hszs, List.length_cons, List.length_nil]; try omega; done)) only [go_sem], ?_⟩
                  simp only [resV, tokE, fltE]
                  simp (disch := first | omega | (simp only [e_ssz, e_psz, e_hszs, List.length_cons, List.length_nil]; try omega; done)) only [↓reduceIte, go_sem, T32, T3.2.2.1, F32, F3.2.2.1, hsets_hsz, hsets_hfr, r2.at, r3.at, r2.2.1, r3.2.1]
                  exact hK _ _ r1
                | bad c o' =>
                  rw [hr] at hK
                  obtain ⟨r1, r2, r3, -⟩ := res2 (la := tok0) (lb := fltE c o') st3 T3 F3 (by omega) (by omega) (by omega) rfl rfl
                  simp only [tok0, fltE] at r1 r2 r3
                  refine ⟨by simp (disch := first | omega | (simp only [e_ssz, e_psz, e_hszs, List.length_cons, List.length_nil]; try omega; done)) only [go_sem], ?_⟩
                  simp only [resV, tok0, fltE]
                  simp (disch := first | omega | (simp only [e_ssz, e_psz, e_hszs, List.length_cons, List.length_nil]; try omega; done)) only [↓reduceIte, go_sem, T32, T3.2.2.1, F32, F3.2.2.1, hsets_hsz, hsets_hfr, r2.at, r3.at, r2.2.1, r3.2.1]
                  exact hK _ _ r1
              | false =>
                have hK := rest (by rw [hd1]; simp)
                rw [if_neg (by omega)] at hK
                simp (disch := first | omega | (simp only [e_ssz, e_psz, e_hszs, List.length_cons, List.length_nil]; try omega; done)) only [↓reduceIte, go_sem, eq_true (show (c : Int) = 45 by omega), eq_false (show ¬ (c : Int) = 34 by omega), hc1, hl1]
                refine effS_call (.inr (.inr (.inr (.inr (.inr (.inr ⟨rfl, (ub (ub u h.size 0) (h.size + 1) 0), s, k, rfl, hk, hl, hlt, fun u3 h3 s3 => ?_⟩))))))
                have st3 := sp1.trans0 s3
                have T3 := T1.step0 s3
                have F3 := F1.step0 s3
                have T31 := T3.1
                have F31 := F3.1
                have T32 := T3.2.1
                have F32 := F3.2.1
                simp only [tok0, fltE, List.length_cons, List.length_nil] at T32 F32
                cases hr : signF s k with
                | ok t =>
                  rw [hr] at hK
                  obtain ⟨r1, r2, r3, r4⟩ := res2 (la := tokE t) (lb := fltE 0 0) st3 T3 F3 (by omega) (by omega) (by omega) rfl rfl
                  simp only [tokE, fltE] at r1 r2 r3
                  refine ⟨by simp (disch := first | omega | (simp only [e_ssz, e_psz, e_hszs, List.length_cons, List.length_nil]; try omega; done)) only [go_sem], ?_⟩
                  simp only [resV, tokE, fltE]
                  simp (disch := first | omega | (simp only [e_ssz, e_psz, e_hszs, List.length_cons, List.length_nil]; try omega; done)) only [↓reduceIte, go_sem, T32, T3.2.2.1, F32, F3.2.2.1, hsets_hsz, hsets_hfr, r2.at, r3.at, r2.2.1, r3.2.1]
                  exact hK _ _ r1
                | bad c o' =>
                  rw [hr] at hK
                  obtain ⟨r1, r2, r3, -⟩ := res2 (la := tok0) (lb := fltE c o') st3 T3 F3 (by omega) (by omega) (by omega) rfl rfl
                  simp only [tok0, fltE] at r1 r2 r3
                  refine ⟨by simp (disch := first | omega | (simp only [e_ssz, e_psz, e_hszs, List.length_cons, List.length_nil]; try omega; done)) only [go_sem], ?_⟩
                  simp only [resV, tok0, fltE]
                  simp (disch := first | omega | (simp only [e_ssz, e_psz, e_hszs, List.length_cons, List.length_nil]; try omega; done)) only [↓reduceIte, go_sem, T32, T3.2.2.1, F32, F3.2.2.1, hsets_hsz, hsets_hfr, r2.at, r3.at, r2.2.1, r3.2.1]
                  exact hK _ _ r1
            · have hK := rest (by rw [bat_end (show s.length ≤ k + 1 by omega)]; simp [dgB])
              rw [if_neg (by omega)] at hK
              simp (disch := first | omega | (simp only [e_ssz, e_psz, e_hszs, List.length_cons, List.length_nil]; try omega; done)) only [↓reduceIte, go_sem, eq_true (show (c : Int) = 45 by omega), eq_false (show ¬ (c : Int) = 34 by omega), hc1, eq_false hl1]
              refine effS_call (.inr (.inr (.inr (.inr (.inr (.inr ⟨rfl, (ub (ub u h.size 0) (h.size + 1) 0), s, k, rfl, hk, hl, hlt, fun u3 h3 s3 => ?_⟩))))))
              have st3 := sp1.trans0 s3
              have T3 := T1.step0 s3
              have F3 := F1.step0 s3
              have T31 := T3.1
              have F31 := F3.1
              have T32 := T3.2.1
              have F32 := F3.2.1
              simp only [tok0, fltE, List.length_cons, List.length_nil] at T32 F32
              cases hr : signF s k with
              | ok t =>
                rw [hr] at hK
                obtain ⟨r1, r2, r3, r4⟩ := res2 (la := tokE t) (lb := fltE 0 0) st3 T3 F3 (by omega) (by omega) (by omega) rfl rfl
                simp only [tokE, fltE] at r1 r2 r3
                refine ⟨by simp (disch := first | omega | (simp only [e_ssz, e_psz, e_hszs, List.length_cons, List.length_nil]; try omega; done)) only [go_sem], ?_⟩
                simp only [resV, tokE, fltE]
                simp (disch := first | omega | (simp only [e_ssz, e_psz, e_hszs, List.length_cons, List.length_nil]; try omega; done)) only [↓reduceIte, go_sem, T32, T3.2.2.1, F32, F3.2.2.1, hsets_hsz, hsets_hfr, r2.at, r3.at, r2.2.1, r3.2.1]
                exact hK _ _ r1
              | bad c o' =>
                rw [hr] at hK
                obtain ⟨r1, r2, r3, -⟩ := res2 (la := tok0) (lb := fltE c o') st3 T3 F3 (by omega) (by omega) (by omega) rfl rfl
                simp only [tok0, fltE] at r1 r2 r3
                refine ⟨by simp (disch := first | omega | (simp only [e_ssz, e_psz, e_hszs, List.length_cons, List.length_nil]; try omega; done)) only [go_sem], ?_⟩
                simp only [resV, tok0, fltE]
                simp (disch := first | omega | (simp only [e_ssz, e_psz, e_hszs, List.length_cons, List.length_nil]; try omega; done)) only [↓reduceIte, go_sem, T32, T3.2.2.1, F32, F3.2.2.1, hsets_hsz, hsets_hfr, r2.at, r3.at, r2.2.1, r3.2.1]
                exact hK _ _ r1
          · have hK := rest (fun h => hm h.1)
            by_cases hq : c = 34
            · rw [if_pos hq] at hK
              simp (disch := first | omega | (simp only [e_ssz, e_psz, e_hszs, List.length_cons, List.length_nil]; try omega; done)) only [↓reduceIte, go_sem, eq_false (show ¬ (c : Int) = 45 by omega), eq_true (show (c : Int) = 34 by omega)]
              refine effS_call (.inr (.inr (.inr (.inr (.inr (.inl ⟨rfl, (ub (ub u h.size 0) (h.size + 1) 0), s, k, rfl, hk, hl, hlt, fun u3 h3 s3 => ?_⟩))))))
              simp only
              have st3 := sp1.trans0 s3
              have T3 := T1.step0 s3
              have F3 := F1.step0 s3
              have T31 := T3.1
              have F31 := F3.1
              have T32 := T3.2.1
              have F32 := F3.2.1
              simp only [tok0, fltE, List.length_cons, List.length_nil] at T32 F32
              cases hr : txtF s k (k + 1) [] with
              | ok t =>
                rw [hr] at hK
                obtain ⟨r1, r2, r3, r4⟩ := res2 (la := tokE t) (lb := fltE 0 0) st3 T3 F3 (by omega) (by omega) (by omega) rfl rfl
                simp only [tokE, fltE] at r1 r2 r3
                refine ⟨by simp (disch := first | omega | (simp only [e_ssz, e_psz, e_hszs, List.length_cons, List.length_nil]; try omega; done)) only [go_sem], ?_⟩
                simp only [resV, tokE, fltE]
                simp (disch := first | omega | (simp only [e_ssz, e_psz, e_hszs, List.length_cons, List.length_nil]; try omega; done)) only [↓reduceIte, go_sem, T32, T3.2.2.1, F32, F3.2.2.1, hsets_hsz, hsets_hfr, r2.at, r3.at, r2.2.1, r3.2.1]
                exact hK _ _ r1
              | bad c o' =>
                rw [hr] at hK
                obtain ⟨r1, r2, r3, -⟩ := res2 (la := tok0) (lb := fltE c o') st3 T3 F3 (by omega) (by omega) (by omega) rfl rfl
                simp only [tok0, fltE] at r1 r2 r3
                refine ⟨by simp (disch := first | omega | (simp only [e_ssz, e_psz, e_hszs, List.length_cons, List.length_nil]; try omega; done)) only [go_sem], ?_⟩
                simp only [resV, tok0, fltE]
                simp (disch := first | omega | (simp only [e_ssz, e_psz, e_hszs, List.length_cons, List.length_nil]; try omega; done)) only [↓reduceIte, go_sem, T32, T3.2.2.1, F32, F3.2.2.1, hsets_hsz, hsets_hfr, r2.at, r3.at, r2.2.1, r3.2.1]
                exact hK _ _ r1
            · rw [if_neg hq] at hK
              simp (disch := first | omega | (simp only [e_ssz, e_psz, e_hszs, List.length_cons, List.length_nil]; try omega; done)) only [↓reduceIte, go_sem, eq_false (show ¬ (c : Int) = 45 by omega), eq_false (show ¬ (c : Int) = 34 by omega)]
              refine effS_call (.inr (.inr (.inr (.inr (.inr (.inr ⟨rfl, (ub (ub u h.size 0) (h.size + 1) 0), s, k, rfl, hk, hl, hlt, fun u3 h3 s3 => ?_⟩))))))
              have st3 := sp1.trans0 s3
              have T3 := T1.step0 s3
              have F3 := F1.step0 s3
              have T31 := T3.1
              have F31 := F3.1
              have T32 := T3.2.1
              have F32 := F3.2.1
              simp only [tok0, fltE, List.length_cons, List.length_nil] at T32 F32
              cases hr : signF s k with
              | ok t =>
                rw [hr] at hK
                obtain ⟨r1, r2, r3, r4⟩ := res2 (la := tokE t) (lb := fltE 0 0) st3 T3 F3 (by omega) (by omega) (by omega) rfl rfl
                simp only [tokE, fltE] at r1 r2 r3
                refine ⟨by simp (disch := first | omega | (simp only [e_ssz, e_psz, e_hszs, List.length_cons, List.length_nil]; try omega; done)) only [go_sem], ?_⟩
                simp only [resV, tokE, fltE]
                simp (disch := first | omega | (simp only [e_ssz, e_psz, e_hszs, List.length_cons, List.length_nil]; try omega; done)) only [↓reduceIte, go_sem, T32, T3.2.2.1, F32, F3.2.2.1, hsets_hsz, hsets_hfr, r2.at, r3.at, r2.2.1, r3.2.1]
                exact hK _ _ r1
              | bad c o' =>
                rw [hr] at hK
                obtain ⟨r1, r2, r3, -⟩ := res2 (la := tok0) (lb := fltE c o') st3 T3 F3 (by omega) (by omega) (by omega) rfl rfl
                simp only [tok0, fltE] at r1 r2 r3
                refine ⟨by simp (disch := first | omega | (simp only [e_ssz, e_psz, e_hszs, List.length_cons, List.length_nil]; try omega; done)) only [go_sem], ?_⟩
                simp only [resV, tok0, fltE]
                simp (disch := first | omega | (simp only [e_ssz, e_psz, e_hszs, List.length_cons, List.length_nil]; try omega; done)) only [↓reduceIte, go_sem, T32, T3.2.2.1, F32, F3.2.2.1, hsets_hsz, hsets_hfr, r2.at, r3.at, r2.2.1, r3.2.1]
                exact hK _ _ r1
def G_rfScan : Ctr := fun f vs h K _ => (f = 104 ∧ C_rfGap vs h K) ∨ (f = 103 ∧ C_rfault vs h K) ∨ (f = 105 ∧ C_rtok tokF (fun _ _ => True) vs h K)
theorem G_rfScan_ok : GOk Tryd.prog G_rfScan := by
  rintro f vs h K KP (⟨rfl, hC⟩ | ⟨rfl, hC⟩ | ⟨rfl, hC⟩)
  · exact rfGap_ok hC
  · exact rfFault_ok hC
  · exact rfToken_ok hC
def C_rscan (vs : List Value) (h : H) (K : Value → H → Prop) : Prop := ∃ (u : U) (s : List UInt8), vs = [str s] ∧ s.length ≤ 9223372036854775807 ∧ ∀ u' h' v, Step S0 u h u' h' → Own h.size u' h' v (scanF s).1 → K (.tuple #[v, .agg (fltE (scanF s).2.1 (scanF s).2.2).toArray]) h'
theorem rfScan_ok {vs : List Value} {h : H} {K : Value → H → Prop} {KP : List PanicEntry → H → Prop} (hC : C_rscan vs h K) : HCX Tryd.prog 86 vs h K KP := by
  obtain ⟨u, s, rfl, hmax, hK⟩ := hC
  refine rfScan_H G_rfScan G_rfScan_ok _ ?_
  have R1 := Blk.new (u := u) (h := h) (fltE 0 0) 27
  have st1 := Step.push0 S0 u h (fltE 0 0).toArray 27
  have fin : ∀ (u4 : U) (h4 : H) (v : Value) (c o : Int) (l : List Tok), Step S0 u h u4 h4 → Blk u4 h4 h.size (fltE 0 0) → Own (h.size + 1) u4 h4 v l → l = (scanF s).1 → c = (scanF s).2.1 → o = ((scanF s).2.2 : Nat) →
      Blk u4 (hsets h4 h.size 0 (fltE c o)) h.size (fltE c o) ∧ ∀ u5 h5, Step S0 u4 (hsets h4 h.size 0 (fltE c o)) u5 h5 → K (.tuple #[v, .agg (fltE c o).toArray]) h5 := by
    intro u4 h4 v c o l q1 q2 q3 q4 q5 q6
    subst q4 q5 q6
    have w1 := q1.setsR (b := h.size) (o := 0) (l := fltE (scanF s).2.1 (scanF s).2.2) (.inl (Nat.le_refl _)) (by rw [q2.2.2.2.1]; exact Nat.zero_le _) (by rw [q2.2.1]; exact Nat.le_refl _)
    have w2 := Step.sets (S := fun b => b = h.size) u4 h4 (b := h.size) (o := 0) (fltE (scanF s).2.1 (scanF s).2.2) rfl (by rw [q2.2.2.2.1]; exact Nat.zero_le _) (by rw [q2.2.1]; exact Nat.le_refl _)
    exact ⟨q2.sets rfl, fun u5 h5 s5 => hK _ _ _ (w1.trans0 s5) (((q3.step w2 (fun b hb he => by have := q3.ge hb; omega)).step0 s5).mono (by omega))⟩
  by_cases hl : 65536 < s.length
  · have hsc : scanF s = ([], 1, 0) := by unfold scanF; rw [if_pos hl]
    simp only [fltE] at R1 st1
    simp (disch := first | omega | (simp only [e_ssz, e_psz, e_hszs, List.length_cons, List.length_nil]; try omega; done)) only [↓reduceIte, go_sem, rfScan_S, rfScan_E, eq_true (show (65536 : Int) < (s.length : Nat) by omega)]
    refine effS_call (.inr (.inl ⟨rfl, ub u h.size 0, 1, 0, rfl, fun u2 h2 s2 => ⟨by simp (disch := first | omega | (simp only [e_ssz, e_psz, e_hszs, List.length_cons, List.length_nil]; try omega; done)) only [go_sem], ?_⟩⟩))
    have R2 := R1.step0 s2
    obtain ⟨f1, f2⟩ := fin u2 h2 (.slice none 0 0) 1 0 [] (st1.trans0 s2) R2 (.nil _ _ _) (by rw [hsc]) (by rw [hsc]) (by rw [hsc]; rfl)
    have R21 := R2.1
    simp only [fltE] at f1 f2
    simp (disch := first | omega | (simp only [e_ssz, e_psz, e_hszs, List.length_cons, List.length_nil]; try omega; done)) only [↓reduceIte, go_sem, fltE, R2.2.1, R2.2.2.1, f1.at, f1.2.1]
    exact f2 _ _ (.refl _ _ _)
  have hsc : scanF s = scanK s 0 := by unfold scanF; rw [if_neg hl]; rfl
  have hlen := scanF_len s
  simp only [fltE] at R1 st1
  simp (disch := first | omega | (simp only [e_ssz, e_psz, e_hszs, List.length_cons, List.length_nil]; try omega; done)) only [↓reduceIte, go_sem, rfScan_S, rfScan_E, eq_false (show ¬ (65536 : Int) < (s.length : Nat) by omega)]
  obtain ⟨I, hI⟩ : ∃ I : Nat × List Tok → Env → H → Prop, I = fun x σ h' => σ 0 = str s ∧ σ 3 = .pointer (some ⟨h.size, 0, none⟩) ∧ σ 5 = .int .i64 x.1 ∧ x.1 ≤ s.length ∧ scanK s 0 = (x.2 ++ (scanK s x.1).1, (scanK s x.1).2) ∧
      ∃ u', Step S0 u h u' h' ∧ Blk u' h' h.size (fltE 0 0) ∧ Own (h.size + 1) u' h' (σ 4) x.2 := ⟨_, rfl⟩
  refine wpS_loop I (fun x => s.length - x.1) (0, []) (by
    rw [hI]
    exact ⟨by simp [upd], by simp [upd], by simp [upd], by simp, rfl, _, st1, R1, by simpa [upd] using Own.nil _ _ _⟩) ?_
  clear R1 st1
  rintro ⟨k, acc⟩ σ h1 hy
  rw [hI] at hy
  obtain ⟨e0, e3, e5, hk, hsk, u1, st, R, ho⟩ := hy
  simp only at e5 hk hsk ho
  rw [hsc] at fin hlen
  have R01 := R.1
  obtain ⟨oa, oc, hoe, -, -⟩ := ho.sl
  simp (disch := first | omega | (simp only [e_ssz, e_psz, e_hszs, List.length_cons, List.length_nil]; try omega; done)) only [go_sem, rfScan_L1, e0, e5]
  refine effS_call (.inl ⟨rfl, s, k, rfl, by omega, by omega, by omega, ⟨by simp (disch := first | omega | (simp only [e_ssz, e_psz, e_hszs, List.length_cons, List.length_nil]; try omega; done)) only [go_sem], ?_⟩⟩)
  rw [Int.toNat_natCast]
  have gl := gap_le hk
  obtain ⟨o, hgo⟩ : ∃ o, o = (gapF s k).1 := ⟨_, rfl⟩
  rw [← hgo] at gl ⊢
  cases hg2 : (gapF s k).2 with
  | false =>
    have hn : nextF s k = .bad 16 o := by unfold nextF; rw [hg2, ← hgo]; rfl
    rw [scanK_bad hn, List.append_nil] at hsk
    simp (disch := first | omega | (simp only [e_ssz, e_psz, e_hszs, List.length_cons, List.length_nil]; try omega; done)) only [↓reduceIte, go_sem, okN]
    refine effS_call (.inr (.inl ⟨rfl, u1, 16, o, rfl, fun u2 h2 s2 => ⟨by simp (disch := first | omega | (simp only [e_ssz, e_psz, e_hszs, List.length_cons, List.length_nil]; try omega; done)) only [go_sem], ?_⟩⟩))
    have R2 := R.step0 s2
    obtain ⟨f1, f2⟩ := fin u2 h2 _ 16 o acc (st.trans0 s2) R2 (ho.step0 s2) (by rw [hsk]) (by rw [hsk]) (by rw [hsk])
    have R21 := R2.1
    simp only [fltE] at f1 f2
    rw [hoe] at f2
    simp (disch := first | omega | (simp only [e_ssz, e_psz, e_hszs, List.length_cons, List.length_nil]; try omega; done)) only [↓reduceIte, go_sem, fltE, e3, hoe, R2.2.1, R2.2.2.1, f1.at, f1.2.1]
    exact f2 _ _ (.refl _ _ _)
  | true =>
    have hn : nextF s k = tokF s o := by unfold nextF; rw [hg2, ← hgo]; rfl
    simp (disch := first | omega | (simp only [e_ssz, e_psz, e_hszs, List.length_cons, List.length_nil]; try omega; done)) only [↓reduceIte, go_sem, okN, e0]
    refine effS_call (.inr (.inr ⟨rfl, u1, s, o, rfl, gl, by omega, trivial, fun u2 h2 s2 => ?_⟩))
    have R2 := R.step0 s2
    have st2 := st.trans0 s2
    have ho2 := ho.step0 s2
    have R21 := R2.1
    cases hr : tokF s o with
    | bad c p =>
      have hc := tok_bad_ne hr
      rw [hr] at hn
      rw [scanK_bad hn, List.append_nil] at hsk
      have sp : Step S0 u2 h2 (ub (ub u2 h2.size 0) (h2.size + 1) 0) ((h2.push (.cells tok0.toArray 75)).push (.cells (fltE c p).toArray 27)) := by
        have := ((Step.refl S0 u2 h2).pushR (c := tok0.toArray) (t := 75)).pushR (c := (fltE c p).toArray) (t := 27)
        simpa only [e_psz] using this
      obtain ⟨f1, f2⟩ := fin u2 h2 _ c p acc st2 R2 ho2 (by rw [hsk]) (by rw [hsk]) (by rw [hsk])
      refine ⟨by simp (disch := first | omega | (simp only [e_ssz, e_psz, e_hszs, List.length_cons, List.length_nil]; try omega; done)) only [go_sem], ?_⟩
      simp only [resV, tok0, fltE] at sp f1 f2 ⊢
      have R22 := R2.2.1
      simp only [fltE, List.length_cons, List.length_nil] at R22
      have q2 : (hsets h2 h.size 0 [.int .i64 c, .int .i64 0, .int .i64 (p : Int)]).size = h2.size := hsets_size _ _ _ _
      rw [hoe] at f2
      simp (disch := first | omega | (simp only [e_ssz, e_psz, e_hszs, List.length_cons, List.length_nil]; try omega; done)) only [↓reduceIte, go_sem, e3, hoe, eq_false (show ¬ c = 0 from hc), R22, R2.2.2.1, f1.at, f1.2.1]
      exact f2 _ _ (by repeat (first | exact Step.refl _ _ _ | assumption | apply Step.pushR))
    | ok t =>
      obtain ⟨tc, tv, tn, tp, to, te, rfl, q1, q2, q3, q4⟩ := next_ok hk (hn.trans hr)
      rw [hr] at hn
      obtain ⟨t, ht⟩ : ∃ t : Tok, t = (tc, tv, tn, tp, (to : Int), (te : Int)) := ⟨_, rfl⟩
      have T2 := (Blk.new (u := u2) (h := h2) (tokE t) 75).pushR (c := (fltE 0 0).toArray) (t := 27)
      have sp := ((Step.refl S0 u2 h2).pushR (c := (tokE t).toArray) (t := 75)).pushR (c := (fltE 0 0).toArray) (t := 27)
      have o3 := ho2.step0 sp
      have R3 := R2.step0 sp
      have st3 := st2.trans0 sp
      have hacc : acc.length ≤ 65536 := by
        have h1 := congrArg (fun x => x.1.length) hsk
        simp only [List.length_append] at h1
        have h2 : 1 ≤ (scanK s k).1.length := by
          by_cases h0 : tc = 0
          · rw [scanK_end hn h0]; simp
          · rw [scanK_on hk hn h0]; simp
        omega
      have hlt : ∀ b, OwnB (σ 4) b → h.size + 1 ≤ b ∧ b < h2.size := fun b hb => ⟨ho2.ge hb, ho2.lt hb⟩
      simp only [e_psz, ht, tokE, fltE] at T2 sp o3 R3 st3
      refine ⟨by simp (disch := first | omega | (simp only [e_ssz, e_psz, e_hszs, List.length_cons, List.length_nil]; try omega; done)) only [go_sem], ?_⟩
      simp only [resV, tokE, fltE]
      simp (disch := first | omega | (simp only [e_ssz, e_psz, e_hszs, List.length_cons, List.length_nil]; try omega; done)) only [↓reduceIte, go_sem, hoe]
      rw [← hoe]
      refine effS_app1q (k := h.size + 1) (by simp only [e_psz]) o3 (x := t) (by rw [rep_tok, ht]; rfl) rfl rfl (by simp only [e_psz]; omega) (by omega) fun a n c u4 h4 ho4 s4 hO4 => ⟨by simp (disch := first | omega | (simp only [e_ssz, e_psz, e_hszs, List.length_cons, List.length_nil]; try omega; done)) only [go_sem], ?_⟩
      have T4 := T2.step s4 (fun hb => by have := hlt _ hb; omega)
      have R4 := R3.step s4 (fun hb => by have := hlt _ hb; omega)
      have st4 := st3.trans s4 (fun b hb hq => by have := hlt _ hq; omega)
      have T41 := T4.1; have R41 := R4.1
      have R42 := R4.2.1
      simp only [List.length_cons, List.length_nil] at R42
      by_cases h0 : tc = 0
      · rw [scanK_end hn h0] at hsk
        obtain ⟨f1, f2⟩ := fin u4 h4 (.slice a n c) 0 0 (acc ++ [t]) st4 R4 ho4 (by rw [hsk, ht]) (by rw [hsk]) (by rw [hsk]; rfl)
        simp only [fltE] at f1 f2
        simp (disch := first | omega | (simp only [e_ssz, e_psz, e_hszs, List.length_cons, List.length_nil]; try omega; done)) only [↓reduceIte, go_sem, e3, T4.at, T4.2.1, eq_true h0, R42, R4.2.2.1, f1.at, f1.2.1]
        exact f2 _ _ (.refl _ _ _)
      · rw [scanK_on hk hn h0] at hsk
        have hlt2 := q4 h0
        simp (disch := first | omega | (simp only [e_ssz, e_psz, e_hszs, List.length_cons, List.length_nil]; try omega; done)) only [↓reduceIte, go_sem, T4.at, T4.2.1, eq_false h0]
        refine ⟨(te, acc ++ [t]), ?_, by simp only; omega⟩
        rw [hI]
        refine ⟨by simp [upd, e0], by simp [upd, e3], by simp [upd], q2, ?_, u4, st4, R4, by simpa [upd] using ho4⟩
        rw [hsk, ht]; simp
end Go.Proofs.YtmnfhmbmifompaaDoor
