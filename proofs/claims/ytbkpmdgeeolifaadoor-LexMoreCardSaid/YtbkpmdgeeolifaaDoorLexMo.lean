/- The law LexMore. -/
import Derived.Test.YtbkpmdgeeolifaaDoorLexQ
import Derived.Test.YtbkpmdgeeolifaaDoorLexL2
namespace Go.Proofs.YtbkpmdgeeolifaaDoor
open Go Go.Ev Edict
def C_law3 (vs : List Value) (h : H) (K : Value → H → Prop) : Prop := ∃ (u : U) (s m : List UInt8), vs = [str s, str m] ∧ s.length ≤ 9223372036854775807 ∧ m.length ≤ 140737488351232 ∧ LxG u h ∧ ∀ u' h', Step S0 u h u' h' → K (.bool true) h'
def G_LexMore : Ctr := fun f vs h K _ => (f = 22 ∧ C_head vs h K) ∨ (f = 21 ∧ C_scan vs h K) ∨ (f = 23 ∧ C_begun vs h K) ∨ (f = 24 ∧ C_ended vs h K) ∨ (f = 18 ∧ C_same vs h K)
theorem G_LexMore_ok : GOk Tryd.prog G_LexMore := by
  rintro f vs h K KP (⟨rfl, hC⟩ | ⟨rfl, hC⟩ | ⟨rfl, hC⟩ | ⟨rfl, hC⟩ | ⟨rfl, hC⟩)
  · exact lwHead_ok hC
  · exact lxScan_ok hC
  · exact lwBegun_ok hC
  · exact lwEnded_ok hC
  · exact lwSame_ok hC
theorem LexMore_ok {vs : List Value} {h : H} {K : Value → H → Prop} {KP : List PanicEntry → H → Prop} (hC : C_law3 vs h K) : HCX Tryd.prog 8 vs h K KP := by
  obtain ⟨u, s0, m, rfl, hl0, hlm, hG, hK⟩ := hC
  refine LexMore_H G_LexMore G_LexMore_ok _ _ ?_
  simp (disch := first | omega | (simp only [e_ssz, e_psz, e_hszs, List.length_cons, List.length_nil]; try omega; done)) only [↓reduceIte, go_sem, LexMore_S, LexMore_E]
  refine effS_call (.inl ⟨rfl, s0, rfl, hl0, ⟨by simp (disch := first | omega | (simp only [e_ssz, e_psz, e_hszs, List.length_cons, List.length_nil]; try omega; done)) only [go_sem], ?_⟩⟩)
  obtain ⟨s, hs⟩ : ∃ s, s = headF s0 := ⟨_, rfl⟩
  have hlen := scanF_len s
  have hl16 : s.length ≤ 65536 := by rw [hs]; exact (headF_len s0).1
  have hl : s.length ≤ 9223372036854775807 := by omega
  have hsc := head_scan s0
  rw [← hs] at hsc ⊢
  have hsk : scanF s = scanK s 0 := scanF_K hl16
  obtain ⟨c, hc⟩ : ∃ c, c = (scanF s).2.1 := ⟨_, rfl⟩
  obtain ⟨p, hp⟩ : ∃ p, p = (scanF s).2.2 := ⟨_, rfl⟩
  obtain ⟨L, hL⟩ : ∃ L, L = (scanF s).1 := ⟨_, rfl⟩
  have hL1 : L = aT :: (scanK s 1).1 := by rw [hL, hsc]
  have hall : scanK s 0 = (L, c, p) := by rw [← hsk, hL, hc, hp]
  have hsh := scan_shape (Nat.zero_le _) hall
  simp (disch := first | omega | (simp only [e_ssz, e_psz, e_hszs, List.length_cons, List.length_nil]; try omega; done)) only [↓reduceIte, go_sem]
  refine effS_call (.inr (.inl ⟨rfl, u, s, rfl, hl, hG, fun u2 h2 w s2 o2 => ⟨by simp (disch := first | omega | (simp only [e_ssz, e_psz, e_hszs, List.length_cons, List.length_nil]; try omega; done)) only [go_sem], ?_⟩⟩))
  rw [← hL] at o2 hlen
  obtain ⟨wa, wc, rfl, q1, q2⟩ := o2.sl
  rw [← hc, ← hp]
  have A3 := Blk.new (u := u2) (h := h2) (fltE c p) 25
  have s3 := Step.push0 S0 u2 h2 (fltE c p).toArray 25
  have st3 := s2.trans0 s3
  have o3 := (o2.step0 s3).isSl
  simp only [fltE] at A3 s3 st3 o3
  simp only [fltE]
  simp (disch := first | omega | (simp only [e_ssz, e_psz, e_hszs, List.length_cons, List.length_nil]; try omega; done)) only [↓reduceIte, go_sem]
  obtain ⟨h3, hh3⟩ : ∃ h3, h3 = h2.push (.cells #[.int .i64 c, .int .i64 0, .int .i64 (p : Int)] 25) := ⟨_, rfl⟩
  obtain ⟨u3, hu3⟩ : ∃ u3, u3 = ub u2 h2.size 0 := ⟨_, rfl⟩
  rw [← hh3, ← hu3] at A3 s3 st3 o3
  rw [← hh3]
  have hs3 : h3.size = h2.size + 1 := by rw [hh3]; simp
  clear hh3 hu3
  refine effS_call (.inr (.inr (.inl ⟨rfl, u3, _, _, rfl, by rw [← hL1]; exact o3, ⟨by simp (disch := first | omega | (simp only [e_ssz, e_psz, e_hszs, List.length_cons, List.length_nil]; try omega; done)) only [go_sem], ?_⟩⟩)))
  simp (disch := first | omega | (simp only [e_ssz, e_psz, e_hszs, List.length_cons, List.length_nil]; try omega; done)) only [↓reduceIte, go_sem, e_ite]
  have A31 := A3.1
  by_cases hc0 : c = 0
  case neg =>
    simp (disch := first | omega | (simp only [e_ssz, e_psz, e_hszs, List.length_cons, List.length_nil]; try omega; done)) only [go_sem, A3.at, A3.2.1, eq_false hc0]
    exact hK _ _ st3
  subst hc0
  obtain ⟨-, rfl, r, hr, hrn⟩ := hsh.resolve_left (fun q => q.1 rfl)
  by_cases hbig : 65536 < s.length + 1 + m.length
  · simp (disch := first | omega | (simp only [e_ssz, e_psz, e_hszs, List.length_cons, List.length_nil]; try omega; done)) only [go_sem, A3.at, A3.2.1, eq_true (show (65536 : Int) < (s.length : Nat) + 1 + (m.length : Nat) by omega)]
    exact hK _ _ st3
  obtain ⟨x, hx⟩ : ∃ x, x = s ++ [10] ++ m := ⟨_, rfl⟩
  have hx2 : x = s ++ 10 :: m := by rw [hx]; simp
  have hxl : x.length = s.length + 1 + m.length := by rw [hx]; simp; omega
  simp (disch := first | omega | (simp only [e_ssz, e_psz, e_hszs, List.length_cons, List.length_nil]; try omega; done)) only [go_sem, A3.at, A3.2.1, eq_false (show ¬ (65536 : Int) < (s.length : Nat) + 1 + (m.length : Nat) by omega)]
  refine ⟨by omega, by omega, ?_⟩
  rw [← hx]
  obtain ⟨q, fx, hq⟩ := more_scan (m := m) (Nat.zero_le _) hrn (by rw [hall, hr])
  rw [← hx2, ← scanF_K (by omega)] at hq
  refine effS_call (.inr (.inl ⟨rfl, u3, x, rfl, by omega, hG.mono st3.ge, fun u4 h4 w4 s4 o4 => ⟨by simp (disch := first | omega | (simp only [e_ssz, e_psz, e_hszs, List.length_cons, List.length_nil]; try omega; done)) only [go_sem], ?_⟩⟩))
  rw [hq] at o4 ⊢
  simp only at o4 ⊢
  obtain ⟨va, vc, rfl, k1, k2⟩ := o4.sl
  obtain ⟨c4, p4⟩ := fx
  have s5 := Step.push0 S0 u4 h4 (fltE c4 p4).toArray 25
  have o5 := (o4.step0 s5).isSl
  have A5 := (A3.step0 s4).step0 s5
  have st5 := (st3.trans0 s4).trans0 s5
  have i5 := (o3.mono s4.ge).mono s5.ge
  simp only [fltE] at s5 o5 st5 i5 A5
  simp only [fltE]
  obtain ⟨h5, hh5⟩ : ∃ h5, h5 = h4.push (.cells #[.int .i64 c4, .int .i64 0, .int .i64 (p4 : Int)] 25) := ⟨_, rfl⟩
  obtain ⟨u5, hu5⟩ : ∃ u5, u5 = ub u4 h4.size 0 := ⟨_, rfl⟩
  rw [← hh5, ← hu5] at A5 o5 st5 i5
  have A51 := A5.1
  have hLr : L.length = r.length + 1 := by rw [hr]; simp
  have hrq : (r ++ q).length = r.length + q.length := by simp
  have el : ((L.length : Nat) : Int) - 1 = (r.length : Nat) := by omega
  simp (disch := first | omega | (simp only [e_ssz, e_psz, e_hszs, List.length_cons, List.length_nil]; try omega; done)) only [↓reduceIte, go_sem, ← hh5, A5.at, A5.2.1, el]
  refine effS_call (.inr (.inr (.inr (.inl ⟨rfl, u5, _, _, 0, 0, s.length, rfl, i5, .inr ⟨rfl, rfl, r, hr, hrn⟩, fun u6 h6 s6 => ⟨by simp (disch := first | omega | (simp only [e_ssz, e_psz, e_hszs, List.length_cons, List.length_nil]; try omega; done)) only [go_sem], ?_⟩⟩))))
  have o6 := isSl_take (o5.mono s6.ge) (k := r.length) (by omega)
  have i6 := isSl_take (i5.mono s6.ge) (k := r.length) (by omega)
  rw [List.take_left] at o6
  rw [hr, List.take_left] at i6
  simp (disch := first | omega | (simp only [e_ssz, e_psz, e_hszs, List.length_cons, List.length_nil]; try omega; done)) only [↓reduceIte, go_sem, eq_true (show r.length ≤ r.length + q.length by omega), eq_true (show ((r.length : Nat) : Int) ≤ (vc : Nat) by omega), eq_true (show ((r.length : Nat) : Int) ≤ (wc : Nat) by omega)]
  refine effS_call (.inr (.inr (.inr (.inr ⟨rfl, u6, _, _, r, r, rfl, o6, i6, ⟨by simp (disch := first | omega | (simp only [e_ssz, e_psz, e_hszs, List.length_cons, List.length_nil]; try omega; done)) only [go_sem], ?_⟩⟩))))
  rw [decide_eq_true rfl]
  simp (disch := first | omega | (simp only [e_ssz, e_psz, e_hszs, List.length_cons, List.length_nil]; try omega; done)) only [↓reduceIte, go_sem, decide_eq_true (show r.length ≤ r.length + q.length by omega)]
  exact hK _ _ (st5.trans0 s6)
theorem LexMore_hc {s m : List UInt8} {h : H} (hl : s.length ≤ 9223372036854775807) (hm : m.length ≤ 140737488351232) (hG : LxG (hsz h) h) : HCX Tryd.prog 8 [str s, str m] h (fun v h' => v = .bool true ∧ Ext0 h h') fun _ _ => False :=
  LexMore_ok ⟨hsz h, s, m, rfl, hl, hm, hG, fun u' h' st => ⟨rfl, st.ext⟩⟩
end Go.Proofs.YtbkpmdgeeolifaaDoor
