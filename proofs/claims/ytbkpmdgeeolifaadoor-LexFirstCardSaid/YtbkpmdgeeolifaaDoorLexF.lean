/- The law LexFirst. -/
import Derived.Test.YtbkpmdgeeolifaaDoorLexO
import Derived.Test.YtbkpmdgeeolifaaDoorLexL2
namespace Go.Proofs.YtbkpmdgeeolifaaDoor
open Go Go.Ev Edict
def G_LexFirst : Ctr := fun f vs h K _ => (f = 22 ∧ C_head vs h K) ∨ (f = 21 ∧ C_scan vs h K) ∨ (f = 23 ∧ C_begun vs h K) ∨ (f = 24 ∧ C_ended vs h K) ∨ (f = 18 ∧ C_same vs h K)
theorem G_LexFirst_ok : GOk Tryd.prog G_LexFirst := by
  rintro f vs h K KP (⟨rfl, hC⟩ | ⟨rfl, hC⟩ | ⟨rfl, hC⟩ | ⟨rfl, hC⟩ | ⟨rfl, hC⟩)
  · exact lwHead_ok hC
  · exact lxScan_ok hC
  · exact lwBegun_ok hC
  · exact lwEnded_ok hC
  · exact lwSame_ok hC
theorem LexFirst_ok {vs : List Value} {h : H} {K : Value → H → Prop} {KP : List PanicEntry → H → Prop} (hC : C_law1 vs h K) : HCX Tryd.prog 9 vs h K KP := by
  obtain ⟨u, s0, rfl, hl0, hG, hK⟩ := hC
  refine LexFirst_H G_LexFirst G_LexFirst_ok _ ?_
  simp (disch := first | omega | (simp only [e_ssz, e_psz, e_hszs, List.length_cons, List.length_nil]; try omega; done)) only [↓reduceIte, go_sem, LexFirst_S, LexFirst_E]
  refine effS_call (.inl ⟨rfl, s0, rfl, hl0, ⟨by simp (disch := first | omega | (simp only [e_ssz, e_psz, e_hszs, List.length_cons, List.length_nil]; try omega; done)) only [go_sem], ?_⟩⟩)
  obtain ⟨s, hs⟩ : ∃ s, s = headF s0 := ⟨_, rfl⟩
  have hlen := scanF_len s
  have hl16 : s.length ≤ 65536 := by rw [hs]; exact (headF_len s0).1
  have hl : s.length ≤ 9223372036854775807 := by omega
  have hsc := head_scan s0
  rw [← hs] at hsc ⊢
  have hsk : scanF s = scanK s 0 := scanF_K hl16
  obtain ⟨c, hc⟩ : ∃ c, c = (scanF s).2.1 := ⟨_, rfl⟩
  obtain ⟨p, hp⟩ : ∃ p, p = (scanF s).2.2 := ⟨_, rfl⟩
  obtain ⟨L, hL⟩ : ∃ L, L = (scanF s).1 := ⟨_, rfl⟩
  have hL1 : L = aT :: (scanK s 1).1 := by rw [hL, hsc]
  have hall : scanK s 0 = (L, c, p) := by rw [← hsk, hL, hc, hp]
  have hsh := scan_shape (Nat.zero_le _) hall
  simp (disch := first | omega | (simp only [e_ssz, e_psz, e_hszs, List.length_cons, List.length_nil]; try omega; done)) only [↓reduceIte, go_sem]
  refine effS_call (.inr (.inl ⟨rfl, u, s, rfl, hl, hG, fun u2 h2 w s2 o2 => ⟨by simp (disch := first | omega | (simp only [e_ssz, e_psz, e_hszs, List.length_cons, List.length_nil]; try omega; done)) only [go_sem], ?_⟩⟩))
  rw [← hL] at o2 hlen
  obtain ⟨wa, wc, rfl, q1, q2⟩ := o2.sl
  rw [← hc, ← hp]
  have A3 := Blk.new (u := u2) (h := h2) (fltE c p) 25
  have s3 := Step.push0 S0 u2 h2 (fltE c p).toArray 25
  have st3 := s2.trans0 s3
  have o3 := (o2.step0 s3).isSl
  simp only [fltE] at A3 s3 st3 o3
  simp only [fltE]
  simp (disch := first | omega | (simp only [e_ssz, e_psz, e_hszs, List.length_cons, List.length_nil]; try omega; done)) only [↓reduceIte, go_sem]
  obtain ⟨h3, hh3⟩ : ∃ h3, h3 = h2.push (.cells #[.int .i64 c, .int .i64 0, .int .i64 (p : Int)] 25) := ⟨_, rfl⟩
  obtain ⟨u3, hu3⟩ : ∃ u3, u3 = ub u2 h2.size 0 := ⟨_, rfl⟩
  rw [← hh3, ← hu3] at A3 s3 st3 o3
  rw [← hh3]
  have hs3 : h3.size = h2.size + 1 := by rw [hh3]; simp
  clear hh3 hu3
  refine effS_call (.inr (.inr (.inl ⟨rfl, u3, _, _, rfl, by rw [← hL1]; exact o3, ⟨by simp (disch := first | omega | (simp only [e_ssz, e_psz, e_hszs, List.length_cons, List.length_nil]; try omega; done)) only [go_sem], ?_⟩⟩)))
  simp (disch := first | omega | (simp only [e_ssz, e_psz, e_hszs, List.length_cons, List.length_nil]; try omega; done)) only [↓reduceIte, go_sem, e_ite]
  have A31 := A3.1
  have hF : scanF s = (L, c, p) := by rw [hsk, hall]
  by_cases hc0 : c = 0
  · subst hc0
    obtain ⟨-, rfl, hE⟩ := hsh.resolve_left (fun q => q.1 rfl)
    simp (disch := first | omega | (simp only [e_ssz, e_psz, e_hszs, List.length_cons, List.length_nil]; try omega; done)) only [go_sem, A3.at, A3.2.1]
    refine effS_call (.inr (.inr (.inr (.inl ⟨rfl, u3, _, _, _, _, _, rfl, o3, .inr ⟨rfl, rfl, hE⟩, fun u5 h5 s5 => ⟨by simp (disch := first | omega | (simp only [e_ssz, e_psz, e_hszs, List.length_cons, List.length_nil]; try omega; done)) only [go_sem], ?_⟩⟩))))
    simp (disch := first | omega | (simp only [e_ssz, e_psz, e_hszs, List.length_cons, List.length_nil]; try omega; done)) only [↓reduceIte, go_sem]
    exact hK _ _ (st3.trans0 s5)
  obtain ⟨hpl, hA, hB⟩ := first_cut hl16 hc0 hF
  obtain ⟨-, -, -, hne⟩ := hsh.resolve_right (fun q => hc0 q.1)
  have e00 : ((0 : Nat) : Int) = 0 := rfl
  by_cases h12 : c = 12
  · subst h12
    obtain ⟨g, hg1, hg2, hg3⟩ := hB rfl
    simp (disch := first | omega | (simp only [e_ssz, e_psz, e_hszs, List.length_cons, List.length_nil]; try omega; done)) only [go_sem, A3.at, A3.2.1, eq_false (show ¬ ((s.length : Nat) : Int) ≤ (p : Nat) by omega)]
    refine ⟨by omega, ?_⟩
    have htp : (s.take p).length = p := by simp; omega
    refine effS_call (.inr (.inl ⟨rfl, u3, s.take p, rfl, by omega, hG.mono st3.ge, fun u4 h4 w4 s4 o4 => ⟨by simp (disch := first | omega | (simp only [e_ssz, e_psz, e_hszs, List.length_cons, List.length_nil]; try omega; done)) only [go_sem], ?_⟩⟩))
    rw [hg2]
    have B4 := Blk.new (u := u4) (h := h4) (fltE 11 (g : Nat)) 25
    have s4' := s4.trans0 (Step.push0 S0 u4 h4 (fltE 11 (g : Nat)).toArray 25)
    simp only [fltE] at B4 s4' ⊢
    simp (disch := first | omega | (simp only [e_ssz, e_psz, e_hszs, List.length_cons, List.length_nil]; try omega; done)) only [↓reduceIte, go_sem, e_ite]
    obtain ⟨h4', hh4⟩ : ∃ h4', h4' = h4.push (.cells #[.int .i64 11, .int .i64 0, .int .i64 (g : Int)] 25) := ⟨_, rfl⟩
    obtain ⟨u4', hu4⟩ : ∃ u4', u4' = ub u4 h4.size 0 := ⟨_, rfl⟩
    rw [← hh4, ← hu4] at B4 s4'
    have B41 := B4.1
    have o3' := o3.mono s4'.ge
    simp (disch := first | omega | (simp only [e_ssz, e_psz, e_hszs, List.length_cons, List.length_nil]; try omega; done)) only [go_sem, ← hh4]
    refine ⟨fun q => by omega, fun _ => ⟨by omega, ?_⟩⟩
    have hta : (s.take g).length = g := by simp; omega
    have hLa : (L ++ [endT g]).length = L.length + 1 := by simp
    refine effS_call (.inr (.inl ⟨rfl, u4', s.take g, rfl, by omega, hG.mono (st3.trans0 s4').ge, fun u5 h5 w5 s5 o5 => ⟨by simp (disch := first | omega | (simp only [e_ssz, e_psz, e_hszs, List.length_cons, List.length_nil]; try omega; done)) only [go_sem], ?_⟩⟩))
    rw [hg3] at o5 ⊢
    simp only [e00] at o5 ⊢
    obtain ⟨va, vc, rfl, k1, k2⟩ := o5.sl
    have B6 := Blk.new (u := u5) (h := h5) (fltE 0 0) 25
    have s6 := Step.push0 S0 u5 h5 (fltE 0 0).toArray 25
    have o6 := (o5.step0 s6).isSl
    have st6 := ((st3.trans0 s4').trans0 s5).trans0 s6
    have i6 := (o3'.mono s5.ge).mono s6.ge
    simp only [hLa] at k1 o6
    simp only [fltE] at B6 s6 o6 st6 i6
    simp only [fltE, hLa]
    simp (disch := first | omega | (simp only [e_ssz, e_psz, e_hszs, List.length_cons, List.length_nil]; try omega; done)) only [↓reduceIte, go_sem]
    obtain ⟨h6, hh6⟩ : ∃ h6, h6 = h5.push (.cells #[.int .i64 0, .int .i64 0, .int .i64 0] 25) := ⟨_, rfl⟩
    obtain ⟨u6, hu6⟩ : ∃ u6, u6 = ub u5 h5.size 0 := ⟨_, rfl⟩
    rw [← hh6, ← hu6] at B6 o6 st6 i6
    have B61 := B6.1
    simp (disch := first | omega | (simp only [e_ssz, e_psz, e_hszs, List.length_cons, List.length_nil]; try omega; done)) only [go_sem, ← hh6]
    refine effS_call (.inr (.inr (.inr (.inl ⟨rfl, u6, _, _, 0, 0, _, rfl, o6, .inr ⟨rfl, rfl, L, rfl, hne⟩, fun u7 h7 s7 => ⟨by simp (disch := first | omega | (simp only [e_ssz, e_psz, e_hszs, List.length_cons, List.length_nil]; try omega; done)) only [go_sem], ?_⟩⟩))))
    have el : ((L.length + 1 : Nat) : Int) - 1 = (L.length : Nat) := by omega
    have o7 := isSl_take (o6.mono s7.ge) (k := L.length) (by rw [hLa]; omega)
    rw [List.take_left] at o7
    have i7 := i6.mono s7.ge
    simp (disch := first | omega | (simp only [e_ssz, e_psz, e_hszs, List.length_cons, List.length_nil]; try omega; done)) only [↓reduceIte, go_sem, el, eq_true (show ((L.length : Nat) : Int) ≤ (vc : Nat) by omega)]
    refine effS_call (.inr (.inr (.inr (.inr ⟨rfl, u7, _, _, _, _, rfl, o7, i7, ⟨by simp (disch := first | omega | (simp only [e_ssz, e_psz, e_hszs, List.length_cons, List.length_nil]; try omega; done)) only [go_sem], ?_⟩⟩))))
    simp (disch := first | omega | (simp only [e_ssz, e_psz, e_hszs, List.length_cons, List.length_nil]; try omega; done)) only [↓reduceIte, go_sem]
    exact hK _ _ (st6.trans0 s7)
  · have hA' := hA h12
    simp (disch := first | omega | (simp only [e_ssz, e_psz, e_hszs, List.length_cons, List.length_nil]; try omega; done)) only [go_sem, A3.at, A3.2.1, eq_false hc0, eq_false h12, eq_false (show ¬ ((s.length : Nat) : Int) ≤ (p : Nat) by omega)]
    refine ⟨by omega, ?_⟩
    have hta : (s.take p).length = p := by simp; omega
    have hLa : (L ++ [endT p]).length = L.length + 1 := by simp
    refine effS_call (.inr (.inl ⟨rfl, u3, s.take p, rfl, by omega, hG.mono (st3).ge, fun u5 h5 w5 s5 o5 => ⟨by simp (disch := first | omega | (simp only [e_ssz, e_psz, e_hszs, List.length_cons, List.length_nil]; try omega; done)) only [go_sem], ?_⟩⟩))
    rw [hA'] at o5 ⊢
    simp only [e00] at o5 ⊢
    obtain ⟨va, vc, rfl, k1, k2⟩ := o5.sl
    have B6 := Blk.new (u := u5) (h := h5) (fltE 0 0) 25
    have s6 := Step.push0 S0 u5 h5 (fltE 0 0).toArray 25
    have o6 := (o5.step0 s6).isSl
    have st6 := ((st3).trans0 s5).trans0 s6
    have i6 := (o3.mono s5.ge).mono s6.ge
    simp only [hLa] at k1 o6
    simp only [fltE] at B6 s6 o6 st6 i6
    simp only [fltE, hLa]
    simp (disch := first | omega | (simp only [e_ssz, e_psz, e_hszs, List.length_cons, List.length_nil]; try omega; done)) only [↓reduceIte, go_sem]
    obtain ⟨h6, hh6⟩ : ∃ h6, h6 = h5.push (.cells #[.int .i64 0, .int .i64 0, .int .i64 0] 25) := ⟨_, rfl⟩
    obtain ⟨u6, hu6⟩ : ∃ u6, u6 = ub u5 h5.size 0 := ⟨_, rfl⟩
    rw [← hh6, ← hu6] at B6 o6 st6 i6
    have B61 := B6.1
    simp (disch := first | omega | (simp only [e_ssz, e_psz, e_hszs, List.length_cons, List.length_nil]; try omega; done)) only [go_sem, ← hh6]
    refine effS_call (.inr (.inr (.inr (.inl ⟨rfl, u6, _, _, 0, 0, _, rfl, o6, .inr ⟨rfl, rfl, L, rfl, hne⟩, fun u7 h7 s7 => ⟨by simp (disch := first | omega | (simp only [e_ssz, e_psz, e_hszs, List.length_cons, List.length_nil]; try omega; done)) only [go_sem], ?_⟩⟩))))
    have el : ((L.length + 1 : Nat) : Int) - 1 = (L.length : Nat) := by omega
    have o7 := isSl_take (o6.mono s7.ge) (k := L.length) (by rw [hLa]; omega)
    rw [List.take_left] at o7
    have i7 := i6.mono s7.ge
    simp (disch := first | omega | (simp only [e_ssz, e_psz, e_hszs, List.length_cons, List.length_nil]; try omega; done)) only [↓reduceIte, go_sem, el, eq_true (show ((L.length : Nat) : Int) ≤ (vc : Nat) by omega)]
    refine effS_call (.inr (.inr (.inr (.inr ⟨rfl, u7, _, _, _, _, rfl, o7, i7, ⟨by simp (disch := first | omega | (simp only [e_ssz, e_psz, e_hszs, List.length_cons, List.length_nil]; try omega; done)) only [go_sem], ?_⟩⟩))))
    simp (disch := first | omega | (simp only [e_ssz, e_psz, e_hszs, List.length_cons, List.length_nil]; try omega; done)) only [↓reduceIte, go_sem]
    exact hK _ _ (st6.trans0 s7)
theorem LexFirst_hc {s : List UInt8} {h : H} (hl : s.length ≤ 9223372036854775807) (hG : LxG (hsz h) h) : HCX Tryd.prog 9 [str s] h (fun v h' => v = .bool true ∧ Ext0 h h') fun _ _ => False :=
  LexFirst_ok ⟨hsz h, s, rfl, hl, hG, fun u' h' st => ⟨rfl, st.ext⟩⟩
end Go.Proofs.YtbkpmdgeeolifaaDoor
