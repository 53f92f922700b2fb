/- The law LexStops. -/
import Derived.Test.YtbkpmdgeeolifaaDoorLexL2
import Derived.Test.YtbkpmdgeeolifaaDoorLexH
namespace Go.Proofs.YtbkpmdgeeolifaaDoor
open Go Go.Ev Edict
def G_LexStops : Ctr := fun f vs h K _ => (f = 22 ∧ C_head vs h K) ∨ (f = 21 ∧ C_scan vs h K) ∨ (f = 23 ∧ C_begun vs h K) ∨ (f = 16 ∧ C_each Y_stops vs h K) ∨ (f = 18 ∧ C_same vs h K)
theorem G_LexStops_ok : GOk Tryd.prog G_LexStops := by
  rintro f vs h K KP (⟨rfl, hC⟩ | ⟨rfl, hC⟩ | ⟨rfl, hC⟩ | ⟨rfl, hC⟩ | ⟨rfl, hC⟩)
  · exact lwHead_ok hC
  · exact lxScan_ok hC
  · exact lwBegun_ok hC
  · exact lxEach_ok Y_stops_ok hC
  · exact lwSame_ok hC
theorem LexStops_ok {vs : List Value} {h : H} {K : Value → H → Prop} {KP : List PanicEntry → H → Prop} (hC : C_law2 vs h K) : HCX Tryd.prog 10 vs h K KP := by
  obtain ⟨u, s0, n, rfl, hl0, ⟨hn1, hn2⟩, hG, hK⟩ := hC
  refine LexStops_H G_LexStops G_LexStops_ok _ _ ?_
  have N1 := Blk.new (u := u) (h := h) [.int .i64 n] 3
  have st1 := Step.push0 S0 u h #[.int .i64 n] 3
  simp (disch := first | omega | (simp only [e_ssz, e_psz, e_hszs, List.length_cons, List.length_nil]; try omega; done)) only [↓reduceIte, go_sem, LexStops_S, LexStops_E]
  refine effS_call (.inl ⟨rfl, s0, rfl, hl0, ⟨by simp (disch := first | omega | (simp only [e_ssz, e_psz, e_hszs, List.length_cons, List.length_nil]; try omega; done)) only [go_sem], ?_⟩⟩)
  obtain ⟨s, hs⟩ : ∃ s, s = headF s0 := ⟨_, rfl⟩
  have hlen := scanF_len s
  have hl : s.length ≤ 9223372036854775807 := by have := (headF_len s0).1; rw [hs]; omega
  have hsc := head_scan s0
  rw [← hs] at hsc ⊢
  obtain ⟨c, hc⟩ : ∃ c, c = (scanF s).2.1 := ⟨_, rfl⟩
  obtain ⟨p, hp⟩ : ∃ p, p = (scanF s).2.2 := ⟨_, rfl⟩
  obtain ⟨L, hL⟩ : ∃ L, L = (scanF s).1 := ⟨_, rfl⟩
  have hL1 : L = aT :: (scanK s 1).1 := by rw [hL, hsc]
  simp (disch := first | omega | (simp only [e_ssz, e_psz, e_hszs, List.length_cons, List.length_nil]; try omega; done)) only [↓reduceIte, go_sem]
  refine effS_call (.inr (.inl ⟨rfl, ub u h.size 0, s, rfl, hl, hG.mono st1.ge, fun u2 h2 w s2 o2 => ⟨by simp (disch := first | omega | (simp only [e_ssz, e_psz, e_hszs, List.length_cons, List.length_nil]; try omega; done)) only [go_sem], ?_⟩⟩))
  rw [← hL] at o2 hlen
  obtain ⟨wa, wc, rfl, q1, q2⟩ := o2.sl
  rw [← hc, ← hp]
  have N2 := N1.step0 s2
  have st2 := st1.trans0 s2
  have A3 := Blk.new (u := u2) (h := h2) (fltE c p) 25
  have s3 := Step.push0 S0 u2 h2 (fltE c p).toArray 25
  have N3 := N2.step0 s3
  have st3 := st2.trans0 s3
  have o3 := o2.step0 s3
  simp only [fltE] at A3 N3 s3 st3 o3
  simp only [fltE]
  simp (disch := first | omega | (simp only [e_ssz, e_psz, e_hszs, List.length_cons, List.length_nil]; try omega; done)) only [↓reduceIte, go_sem]
  obtain ⟨h3, hh3⟩ : ∃ h3, h3 = h2.push (.cells #[.int .i64 c, .int .i64 0, .int .i64 (p : Int)] 25) := ⟨_, rfl⟩
  obtain ⟨u3, hu3⟩ : ∃ u3, u3 = ub u2 h2.size 0 := ⟨_, rfl⟩
  rw [← hh3, ← hu3] at A3 N3 s3 st3 o3
  rw [← hh3]
  have hs3 : h3.size = h2.size + 1 := by rw [hh3]; simp
  clear hh3 hu3 N2 N1
  have i3 := o3.isSl
  rw [hL1] at i3
  have hN21 : h.size < h2.size := by have := s2.ge.sz; simp at this; omega
  refine effS_call (.inr (.inr (.inl ⟨rfl, u3, _, _, rfl, by rw [← hL1] at i3 ⊢; exact i3, ⟨by simp (disch := first | omega | (simp only [e_ssz, e_psz, e_hszs, List.length_cons, List.length_nil]; try omega; done)) only [go_sem], ?_⟩⟩)))
  have A4 := A3.pushR (c := #[.slice none 0 0]) (t := 22)
  have s4 := (Step.refl S0 u3 h3).pushR (c := #[.slice none 0 0]) (t := 22)
  have X4 := Blk.new (u := u3) (h := h3) [.slice none 0 0] 22
  have N4 := N3.step0 s4
  have st4 := st3.trans0 s4
  have o4 := o3.step0 s4
  simp (disch := first | omega | (simp only [e_ssz, e_psz, e_hszs, List.length_cons, List.length_nil]; try omega; done)) only [↓reduceIte, go_sem, e_mkf]
  obtain ⟨h4, hh4⟩ : ∃ h4, h4 = h3.push (.cells #[.slice none 0 0] 22) := ⟨_, rfl⟩
  obtain ⟨u4, hu4⟩ : ∃ u4, u4 = ub u3 h3.size 0 := ⟨_, rfl⟩
  rw [← hh4, ← hu4] at A4 X4 N4 s4 st4 o4
  rw [← hh4]
  have hs4 : h4.size = h2.size + 2 := by rw [hh4]; simp [hs3]
  rw [hs3] at X4 ⊢
  clear hh4 hu4 A3 N3
  refine effS_call (.inr (.inr (.inr (.inl ⟨rfl, u4, s, _, fun i => decide ((i : Int) + 1 ≤ n), fun b => b = h2.size + 1 ∨ b = h.size, InvT L (h2.size + 1) h.size (h2.size + 2) n, rfl, hl, hG.mono st4.ge, InvT_0 X4 N4 (by omega), InvT_lt, InvT_st, ?_, ?_⟩))))
  · refine .inr ⟨26, [.pointer (some ⟨h2.size + 1, 0, none⟩), .pointer (some ⟨h.size, 0, none⟩)], rfl, ?_⟩
    rintro i t O u1 h1 Q QP hti ⟨v, rfl, q1, q0, q2, q3⟩ - hQ
    rw [← hL] at hti
    have hi := (List.getElem?_eq_some_iff.1 hti).1
    have hli : (L.take i).length = i := by rw [List.length_take]; omega
    refine ⟨rfl, u1, h2.size + 1, h.size, h2.size + 2, v, _, t, n, rfl, q1, q0, by omega, q2, by omega, by omega, q3, by omega, fun u4 h4 v4 s4 b4 o4 hO4 => ?_⟩
    rw [hli]
    obtain ⟨w1, w2, w3⟩ := InvT_on (by omega) (by omega) hti q0 q2 q3 s4 b4 o4 hO4
    exact hQ _ u4 h4 w1 w2 w3
  · rintro u5 h5 O m c' o' s5 ⟨v, rfl, q1, q0, q2, q3⟩ hO he
    rw [← hL] at he
    rw [eachF_cut (stop := n.toNat) (fun i hi => by simp; omega) (by simp; omega) _ L 0 (Nat.zero_le _), Nat.zero_add] at he
    have hO3 : ∀ b, OwnB (.slice wa L.length wc) b → h.size + 1 ≤ b ∧ b < h2.size := fun b hb => ⟨by have := o2.ge hb; simp at this; omega, o2.lt hb⟩
    have o5 := o4.step s5 (fun b hb hq => by have := hO3 b hb; omega)
    have A5 := A4.step s5 (by omega)
    have st5 := st4.trans s5 (fun b hb hq => by omega)
    obtain ⟨va, vc, rfl, -, -⟩ := q2.sl
    have A51 := A5.1; have q11 := q1.1; have q01 := q0.1
    refine ⟨by simp (disch := first | omega | (simp only [e_ssz, e_psz, e_hszs, List.length_cons, List.length_nil]; try omega; done)) only [go_sem], ?_⟩
    have s6 := Step.push0 S0 u5 h5 (fltE c' o').toArray 25
    have G6 := Blk.new (u := u5) (h := h5) (fltE c' o') 25
    have o6 := o5.step0 s6
    have g6 := q2.step0 s6
    have A6 := A5.step0 s6
    have X6 := q1.step0 s6
    have N6 := q0.step0 s6
    have st6 := st5.trans0 s6
    simp only [fltE] at s6 o6 g6 A6 X6 N6 st6 G6 ⊢
    obtain ⟨h6, hh6⟩ : ∃ h6, h6 = h5.push (.cells #[.int .i64 c', .int .i64 0, .int .i64 (o' : Int)] 25) := ⟨_, rfl⟩
    obtain ⟨u6, hu6⟩ : ∃ u6, u6 = ub u5 h5.size 0 := ⟨_, rfl⟩
    rw [← hh6, ← hu6] at s6 o6 g6 A6 X6 N6 st6 G6
    have A61 := A6.1
    simp (disch := first | omega | (simp only [e_ssz, e_psz, e_hszs, List.length_cons, List.length_nil]; try omega; done)) only [↓reduceIte, go_sem, A6.at, A6.2.1, ← hh6]
    have hs6 : h6.size = h5.size + 1 := by rw [hh6]; simp
    refine effS_call (.inr (.inr (.inr (.inl ⟨rfl, u6, s, _, fun _ => true, fun _ => False, fun _ O' _ _ => O' = fun _ => False, rfl, hl, hG.mono st6.ge, rfl, ?_, ?_, ?_, ?_⟩))))
    · rintro i O u1 h1 rfl b hb; exact hb.elim
    · rintro i O T u1 h1 u2 h2 rfl st hT; rfl
    · exact .inl ⟨rfl, fun _ => rfl, fun i O u1 h1 e => e⟩
    rintro u7 h7 O' m' c2 o2' s7 - - he2
    rw [← hL, eachF_all (fun _ => rfl)] at he2
    have e1 : (scanF s).2 = (c2, o2') := congrArg Prod.snd he2
    obtain rfl : c2 = c := by rw [hc, e1]
    obtain rfl : o2' = p := by rw [hp, e1]
    have s7 : Step S0 u6 h6 u7 h7 := s7
    have A7 := A6.step0 s7
    have G7 := G6.step0 s7
    have X7 := X6.step0 s7
    have N7 := N6.step0 s7
    have o7 := o6.step0 s7
    have g7 := g6.step0 s7
    have st7 := st6.trans0 s7
    have G71 := G7.1; have X71 := X7.1; have N71 := N7.1
    refine ⟨by simp (disch := first | omega | (simp only [e_ssz, e_psz, e_hszs, List.length_cons, List.length_nil]; try omega; done)) only [↓reduceIte, go_sem, A6.at, A7.at, A7.2.1, hvs_3], ?_⟩
    have hLn : 0 < L.length := by rw [hL1]; simp
    simp only [fltE]
    by_cases hn : n < 0
    · have ss := Step.set (S := fun b => b = h.size) u7 h7 (o := 0) (.int .i64 0) (b := h.size) rfl (by rw [N7.2.2.2.1]; exact Nat.zero_le _)
      have N8 := N7.set (i := 0) (v := .int .i64 0) (by simp)
      have G8 := G7.step ss (by omega)
      have X8 := X7.step ss (by omega)
      have o8 := o7.step ss (fun b hb hq => by have := hO3 b hb; omega)
      have g8 := g7.step ss (fun b hb hq => by have := g7.ge hb; omega)
      have e0 : n.toNat = 0 := by omega
      rw [e0, if_pos hLn] at he
      cases he
      have i8 := isSl_take o8.isSl (k := 1) (by omega)
      have st8 := st7.trans ss (fun b hb hq => by omega)
      simp only [List.set_cons_zero] at N8
      simp (disch := first | omega | (simp only [e_ssz, e_psz, e_hszs, List.length_cons, List.length_nil]; try omega; done)) only [↓reduceIte, go_sem, N7.at, N7.2.1, N7.2.2.1, N8.at, N8.2.1, G8.at, G8.2.1, X8.at, X8.2.1, eq_true hn, eq_true (show (0 : Int) < (L.length : Nat) by omega), eq_true (show (1 : Int) ≤ (wc : Nat) by omega)]
      refine effS_call (.inr (.inr (.inr (.inr ⟨rfl, _, _, _, _, _, rfl, g8.isSl, i8, ⟨by simp (disch := first | omega | (simp only [e_ssz, e_psz, e_hszs, List.length_cons, List.length_nil]; try omega; done)) only [go_sem], ?_⟩⟩))))
      simp (disch := first | omega | (simp only [e_ssz, e_psz, e_hszs, List.length_cons, List.length_nil]; try omega; done)) only [↓reduceIte, go_sem]
      exact hK _ _ st8
    · have hn' : 0 ≤ n := by omega
      by_cases hcase : n.toNat < L.length
      · rw [if_pos hcase] at he
        cases he
        have en : (n + 1).toNat = n.toNat + 1 := by omega
        have i7 := isSl_take o7.isSl (k := n.toNat + 1) (by omega)
        simp (disch := first | omega | (simp only [e_ssz, e_psz, e_hszs, List.length_cons, List.length_nil]; try omega; done)) only [↓reduceIte, go_sem, G7.at, G7.2.1, X7.at, X7.2.1, N7.at, N7.2.1, eq_false hn, eq_true (show n < (L.length : Nat) by omega), en, eq_true (show (0 : Int) ≤ n + 1 by omega), eq_true (show n + 1 ≤ (wc : Int) by omega)]
        refine effS_call (.inr (.inr (.inr (.inr ⟨rfl, _, _, _, _, _, rfl, g7.isSl, i7, ⟨by simp (disch := first | omega | (simp only [e_ssz, e_psz, e_hszs, List.length_cons, List.length_nil]; try omega; done)) only [go_sem], ?_⟩⟩))))
        simp (disch := first | omega | (simp only [e_ssz, e_psz, e_hszs, List.length_cons, List.length_nil]; try omega; done)) only [↓reduceIte, go_sem]
        exact hK _ _ st7
      · rw [if_neg hcase, e1] at he
        cases he
        simp only [List.take_length] at g7 X7 ⊢
        simp (disch := first | omega | (simp only [e_ssz, e_psz, e_hszs, List.length_cons, List.length_nil]; try omega; done)) only [↓reduceIte, go_sem, A7.at, A7.2.1, G7.at, G7.2.1, X7.at, X7.2.1, N7.at, N7.2.1, eq_false hn, eq_false (show ¬ n < (L.length : Nat) by omega)]
        refine effS_call (.inr (.inr (.inr (.inr ⟨rfl, _, _, _, _, _, rfl, g7.isSl, o7.isSl, ⟨by simp (disch := first | omega | (simp only [e_ssz, e_psz, e_hszs, List.length_cons, List.length_nil]; try omega; done)) only [go_sem], ?_⟩⟩))))
        simp (disch := first | omega | (simp only [e_ssz, e_psz, e_hszs, List.length_cons, List.length_nil]; try omega; done)) only [↓reduceIte, go_sem]
        exact hK _ _ st7
theorem LexStops_hc {s : List UInt8} {n : Int} {h : H} (hl : s.length ≤ 9223372036854775807) (hn : -9223372036854775808 ≤ n ∧ n ≤ 9223372036854775807) (hG : LxG (hsz h) h) : HCX Tryd.prog 10 [str s, .int .i64 n] h (fun v h' => v = .bool true ∧ Ext0 h h') fun _ _ => False :=
  LexStops_ok ⟨hsz h, s, n, rfl, hl, hn, hG, fun u' h' st => ⟨rfl, st.ext⟩⟩
end Go.Proofs.YtbkpmdgeeolifaaDoor
