/- The law LexSpaced. -/
import Derived.Test.YtbkpmdgeeolifaaDoorLexR
import Derived.Test.YtbkpmdgeeolifaaDoorLawT
import Derived.Test.YtbkpmdgeeolifaaDoorLexL2
namespace Go.Proofs.YtbkpmdgeeolifaaDoor
open Go Go.Ev Edict
def G_LexSpaced : Ctr := fun f vs h K _ => (f = 22 ∧ C_head vs h K) ∨ (f = 21 ∧ C_scan vs h K) ∨ (f = 23 ∧ C_begun vs h K) ∨ (f = 24 ∧ C_ended vs h K) ∨ (f = 25 ∧ C_moved vs h K)
theorem G_LexSpaced_ok : GOk Tryd.prog G_LexSpaced := by
  rintro f vs h K KP (⟨rfl, hC⟩ | ⟨rfl, hC⟩ | ⟨rfl, hC⟩ | ⟨rfl, hC⟩ | ⟨rfl, hC⟩)
  · exact lwHead_ok hC
  · exact lxScan_ok hC
  · exact lwBegun_ok hC
  · exact lwEnded_ok hC
  · exact lwMoved_ok hC
theorem LexSpaced_ok {vs : List Value} {h : H} {K : Value → H → Prop} {KP : List PanicEntry → H → Prop} (hC : C_law1 vs h K) : HCX Tryd.prog 7 vs h K KP := by
  obtain ⟨u, s0, rfl, hl0, hG, hK⟩ := hC
  refine LexSpaced_H G_LexSpaced G_LexSpaced_ok _ ?_
  simp (disch := first | omega | (simp only [e_ssz, e_psz, e_hszs, List.length_cons, List.length_nil]; try omega; done)) only [↓reduceIte, go_sem, LexSpaced_S, LexSpaced_E]
  refine effS_call (.inl ⟨rfl, s0, rfl, hl0, ⟨by simp (disch := first | omega | (simp only [e_ssz, e_psz, e_hszs, List.length_cons, List.length_nil]; try omega; done)) only [go_sem], ?_⟩⟩)
  obtain ⟨s, hs⟩ : ∃ s, s = headF s0 := ⟨_, rfl⟩
  have hlen := scanF_len s
  have hl16 : s.length ≤ 65536 := by rw [hs]; exact (headF_len s0).1
  have hl : s.length ≤ 9223372036854775807 := by omega
  have hsc := head_scan s0
  rw [← hs] at hsc ⊢
  have hsk : scanF s = scanK s 0 := scanF_K hl16
  obtain ⟨c, hc⟩ : ∃ c, c = (scanF s).2.1 := ⟨_, rfl⟩
  obtain ⟨p, hp⟩ : ∃ p, p = (scanF s).2.2 := ⟨_, rfl⟩
  obtain ⟨L, hL⟩ : ∃ L, L = (scanF s).1 := ⟨_, rfl⟩
  have hL1 : L = aT :: (scanK s 1).1 := by rw [hL, hsc]
  have hall : scanK s 0 = (L, c, p) := by rw [← hsk, hL, hc, hp]
  have hsh := scan_shape (Nat.zero_le _) hall
  simp (disch := first | omega | (simp only [e_ssz, e_psz, e_hszs, List.length_cons, List.length_nil]; try omega; done)) only [↓reduceIte, go_sem]
  refine effS_call (.inr (.inl ⟨rfl, u, s, rfl, hl, hG, fun u2 h2 w s2 o2 => ⟨by simp (disch := first | omega | (simp only [e_ssz, e_psz, e_hszs, List.length_cons, List.length_nil]; try omega; done)) only [go_sem], ?_⟩⟩))
  rw [← hL] at o2 hlen
  obtain ⟨wa, wc, rfl, q1, q2⟩ := o2.sl
  rw [← hc, ← hp]
  have A3 := Blk.new (u := u2) (h := h2) (fltE c p) 25
  have s3 := Step.push0 S0 u2 h2 (fltE c p).toArray 25
  have st3 := s2.trans0 s3
  have o3 := (o2.step0 s3).isSl
  simp only [fltE] at A3 s3 st3 o3
  simp only [fltE]
  simp (disch := first | omega | (simp only [e_ssz, e_psz, e_hszs, List.length_cons, List.length_nil]; try omega; done)) only [↓reduceIte, go_sem]
  obtain ⟨h3, hh3⟩ : ∃ h3, h3 = h2.push (.cells #[.int .i64 c, .int .i64 0, .int .i64 (p : Int)] 25) := ⟨_, rfl⟩
  obtain ⟨u3, hu3⟩ : ∃ u3, u3 = ub u2 h2.size 0 := ⟨_, rfl⟩
  rw [← hh3, ← hu3] at A3 s3 st3 o3
  rw [← hh3]
  have hs3 : h3.size = h2.size + 1 := by rw [hh3]; simp
  clear hh3 hu3
  refine effS_call (.inr (.inr (.inl ⟨rfl, u3, _, _, rfl, by rw [← hL1]; exact o3, ⟨by simp (disch := first | omega | (simp only [e_ssz, e_psz, e_hszs, List.length_cons, List.length_nil]; try omega; done)) only [go_sem], ?_⟩⟩)))
  simp (disch := first | omega | (simp only [e_ssz, e_psz, e_hszs, List.length_cons, List.length_nil]; try omega; done)) only [↓reduceIte, go_sem]
  obtain ⟨r, hr, hrn⟩ : ∃ r, (L = r ∨ L = r ++ [endT s.length]) ∧ ∀ t ∈ r, t.1 ≠ 0 := by
    rcases hsh with ⟨-, -, -, q⟩ | ⟨-, -, r, q1, q2⟩
    · exact ⟨L, .inl rfl, q⟩
    · exact ⟨r, .inr q1, q2⟩
  have hrL : r.length ≤ L.length ∧ L.length ≤ r.length + 1 ∧ ∀ i, i < r.length → L[i]? = r[i]? := by
    rcases hr with hr | hr
    · rw [hr]; exact ⟨Nat.le_refl _, by omega, fun i hi => rfl⟩
    · rw [hr]; exact ⟨by simp, by simp, fun i hi => List.getElem?_append_left hi⟩
  obtain ⟨hr1, hr2, hr3⟩ := hrL
  have hgood : ∀ t ∈ r, Edict.Good s t := fun t ht => scan_good hall t (by rcases hr with q | q <;> rw [q] <;> simp [ht]) (hrn t ht)
  have hgt : ∀ i, ∀ t ∈ r.take i, Edict.Good s t := fun i t ht => hgood t (List.mem_of_mem_take ht)
  have hend : ∀ t, L[r.length]? = some t → t.1 = 0 := fun t ht => by
    rcases hr with q | q
    · rw [q, List.getElem?_eq_none (Nat.le_refl _)] at ht; cases ht
    · rw [q, List.getElem?_append_right (Nat.le_refl _)] at ht; simp at ht; rw [← ht]; rfl
  obtain ⟨I, hI⟩ : ∃ I : Nat → Env → H → Prop, I = fun i σ h' => ∃ (u' : U) (v6 v7 : Value), σ 3 = str s ∧ σ 4 = .slice wa L.length wc ∧ σ 6 = v6 ∧ σ 7 = v7 ∧ σ 8 = .int .i64 i ∧ i ≤ L.length ∧ Step S0 u3 h3 u' h' ∧ Own h3.size u' h' v6 (spx s (r.take i)) ∧ Own h3.size u' h' v7 (offsF (r.take i)) ∧ ∀ b, OwnB v6 b → ¬ OwnB v7 b := ⟨_, rfl⟩
  refine wpS_loop I (fun j => L.length - j) 0 (by rw [hI]; exact ⟨u3, _, _, by simp [upd], by simp [upd], by simp [upd], by simp [upd], by simp [upd], by omega, Step.refl _ _ _, .nil _ _ _, .nil _ _ _, fun b ⟨o, n, c, q⟩ => by cases q⟩) ?_
  intro i σ h' hy
  rw [hI] at hy
  obtain ⟨u', v6, v7, e3, e4, e6, e7, e8, hi, st', w6, w7, hD⟩ := hy
  have i' := o3.mono st'.ge
  obtain ⟨a6, c6, rfl, m61, m62⟩ := w6.sl
  obtain ⟨a7, c7, rfl, m71, m72⟩ := w7.sl
  by_cases hlt : i < L.length
  case neg =>
    obtain rfl : i = L.length := by omega
    rw [List.take_of_length_le (by omega)] at w6 w7 hD e6 e7
    by_cases hbig : 65536 < (spx s r).length
    · simp (disch := first | omega | (simp only [e_ssz, e_psz, e_hszs, List.length_cons, List.length_nil]; try omega; done)) only [↓reduceIte, go_sem, LexSpaced_L1, e4, e6, e8, eq_true (show (65536 : Int) < ((spx s r).length : Nat) by omega)]
      exact hK _ _ (st3.trans st' (fun b hb q => q))
    have hsp := spaced_scan hgood (by omega)
    obtain ⟨x, hx⟩ : ∃ x, x = spx s r := ⟨_, rfl⟩
    rw [← hx] at hsp w6 hbig e6 hD
    have hwr := wd_le hl16 hgood
    simp (disch := first | omega | (simp only [e_ssz, e_psz, e_hszs, List.length_cons, List.length_nil]; try omega; done)) only [↓reduceIte, go_sem, LexSpaced_L1, e4, e6, e8, eq_false (show ¬ (65536 : Int) < (x.length : Nat) by omega)]
    refine effS_b2s w6 ⟨by simp (disch := first | omega | (simp only [e_ssz, e_psz, e_hszs, List.length_cons, List.length_nil]; try omega; done)) only [go_sem], ?_⟩
    simp (disch := first | omega | (simp only [e_ssz, e_psz, e_hszs, List.length_cons, List.length_nil]; try omega; done)) only [↓reduceIte, go_sem]
    refine effS_call (.inr (.inl ⟨rfl, u', x, rfl, by omega, hG.mono (st3.trans0 st').ge, fun u4 h4 w4 s4 o4 => ⟨by simp (disch := first | omega | (simp only [e_ssz, e_psz, e_hszs, List.length_cons, List.length_nil]; try omega; done)) only [go_sem], ?_⟩⟩))
    rw [hsp] at o4 ⊢
    have e00 : ((0 : Nat) : Int) = 0 := rfl
    simp only [e00] at o4 ⊢
    obtain ⟨va, vc, rfl, k1, k2⟩ := o4.sl
    have hml : (mv 0 r ++ [endT x.length]).length = r.length + 1 := by rw [List.length_append, mv_len, List.length_singleton]
    have F5 := Blk.new (u := u4) (h := h4) (fltE 0 0) 25
    have s5 := Step.push0 S0 u4 h4 (fltE 0 0).toArray 25
    have o5 := (o4.step0 s5).isSl
    have x7 := (((w7.step0 s4)).step0 s5).isSl
    have i5 := (i'.mono s4.ge).mono s5.ge
    have st5 := ((st3.trans0 st').trans0 s4).trans0 s5
    have hol : (offsF r).length = r.length := offs_len r
    simp only [fltE, hml, hol] at F5 s5 o5 st5 k1 x7 i5 e7
    simp only [fltE, hml]
    simp (disch := first | omega | (simp only [e_ssz, e_psz, e_hszs, List.length_cons, List.length_nil]; try omega; done)) only [↓reduceIte, go_sem]
    obtain ⟨h5, hh5⟩ : ∃ h5, h5 = h4.push (.cells #[.int .i64 0, .int .i64 0, .int .i64 0] 25) := ⟨_, rfl⟩
    obtain ⟨u5, hu5⟩ : ∃ u5, u5 = ub u4 h4.size 0 := ⟨_, rfl⟩
    rw [← hh5, ← hu5] at F5 o5 st5 x7 i5
    have F51 := F5.1
    simp (disch := first | omega | (simp only [e_ssz, e_psz, e_hszs, List.length_cons, List.length_nil]; try omega; done)) only [go_sem, ← hh5, e6]
    refine effS_call (.inr (.inr (.inr (.inl ⟨rfl, u5, _, _, 0, 0, x.length, rfl, o5, .inr ⟨rfl, rfl, mv 0 r, rfl, fun t ht => ?_⟩, fun u6 h6 s6 => ⟨by simp (disch := first | omega | (simp only [e_ssz, e_psz, e_hszs, List.length_cons, List.length_nil]; try omega; done)) only [go_sem], ?_⟩⟩))))
    · obtain ⟨i, hi⟩ := List.getElem?_of_mem ht
      have hir : i < r.length := by
        have := (List.getElem?_eq_some_iff.1 hi).1
        rwa [mv_len] at this
      obtain ⟨d, hd, -⟩ := mv_get (b := 0) (l := r) (i := i) (t := r[i]) (by simp [hir])
      rw [hd] at hi
      cases hi
      show (r[i]).1 ≠ 0
      exact hrn _ (List.getElem_mem hir)
    simp (disch := first | omega | (simp only [e_ssz, e_psz, e_hszs, List.length_cons, List.length_nil]; try omega; done)) only [↓reduceIte, go_sem, e7, eq_true (show ((r.length + 1 : Nat) : Int) = (r.length : Nat) + 1 by omega)]
    have o6 := o5.mono s6.ge
    have x6 := x7.mono s6.ge
    have i6 := i5.mono s6.ge
    have st6 := st5.trans0 s6
    obtain ⟨J, hJ⟩ : ∃ J : Nat → Env → H → Prop, J = fun i σ h' => ∃ u' : U, σ 4 = .slice wa L.length wc ∧ σ 7 = .slice a7 r.length c7 ∧ σ 11 = .slice va (r.length + 1) vc ∧ σ 13 = .int .i64 i ∧ i ≤ r.length ∧ Step S0 u6 h6 u' h' := ⟨_, rfl⟩
    refine wpS_loop J (fun j => r.length - j) 0 (by rw [hJ]; exact ⟨u6, by simp [upd, e4], by simp [upd, e7], by simp [upd], by simp [upd], by omega, Step.refl _ _ _⟩) ?_
    intro i σ2 h7 hj
    rw [hJ] at hj
    obtain ⟨u7, f4, f7, f11, f13, hi, st7⟩ := hj
    by_cases hir : i < r.length
    case neg =>
      simp (disch := first | omega | (simp only [e_ssz, e_psz, e_hszs, List.length_cons, List.length_nil]; try omega; done)) only [↓reduceIte, go_sem, LexSpaced_L3, f7, f13, eq_false (show ¬ (i : Int) < (r.length : Nat) by omega)]
      exact hK _ _ (st6.trans0 st7)
    obtain ⟨t, ht⟩ : ∃ t, r[i]? = some t := ⟨r[i], by simp [hir]⟩
    obtain ⟨g1, g2, g3, g4, g5, g6⟩ := hgood t (List.mem_of_getElem? ht)
    obtain ⟨d, hd1, hd2, hd3⟩ := offs_get ht
    have hxl : x.length + 1 = Edict.wd r := by
      cases r with
      | nil => simp at hir
      | cons y r => rw [hx]; exact spx_len hgood
    obtain ⟨ab, ao, rfl, hab, hau, haz, har⟩ := (o6.mono st7.ge).row i _ (by rw [List.getElem?_append_left (by rw [mv_len]; exact hir)]; exact hd1)
    obtain ⟨bb, bo, rfl, hbb, hbu, hbz, hbr⟩ := (x6.mono st7.ge).row i _ hd2
    obtain ⟨lb, lo, rfl, hlb, hlu, hlz, hlr⟩ := (i6.mono st7.ge).row i _ (by rw [hr3 i hir]; exact ht)
    rw [rep_tok] at har hlr
    rw [rep_int] at hbr
    simp only [tokE, place, g2, g3, sz_tok, hvs_6, List.cons.injEq, and_true] at har hau haz hlr hlu hlz
    obtain ⟨p0, p1, p2, p3, p4, p5⟩ := har
    obtain ⟨q0, q1', q2', q3, q4, q5⟩ := hlr
    have szi : Rep.sz Int = 1 := rfl
    simp only [szi, hvs_1, List.cons.injEq, and_true] at hbr hbu hbz
    simp (disch := first | omega | (simp only [e_ssz, e_psz, e_hszs, List.length_cons, List.length_nil]; try omega; done)) only [↓reduceIte, go_sem, LexSpaced_L3, f4, f7, f11, f13, hir, p0, p1, p2, p3, p4, p5, q0, q1', q2', q3, q4, q5, hbr, eq_true (show i < L.length by omega)]
    refine effS_call (.inr (.inr (.inr (.inr ⟨rfl, u7, t.1, t.2.1, t.2.2.1, t.2.2.2.1, d, d + (eN t - oN t), oN t, eN t, rfl, by omega, by omega, by omega, by omega, by omega, fun u8 h8 s8 => ⟨by simp (disch := first | omega | (simp only [e_ssz, e_psz, e_hszs, List.length_cons, List.length_nil]; try omega; done)) only [go_sem], ?_⟩⟩))))
    simp (disch := first | omega | (simp only [e_ssz, e_psz, e_hszs, List.length_cons, List.length_nil]; try omega; done)) only [↓reduceIte, go_sem, f13]
    refine ⟨i + 1, ?_, by omega⟩
    rw [hJ]
    refine ⟨u8, ?_, ?_, ?_, ?_, hir, st7.trans0 s8⟩ <;> simp [upd, f4, f7, f11]
  obtain ⟨t, ht⟩ : ∃ t, L[i]? = some t := ⟨L[i], by simp [hlt]⟩
  obtain ⟨pb, po, rfl, hpb, hpu, hpz, hpr⟩ := i'.row i t ht
  rw [rep_tok] at hpr
  simp only [tokE, sz_tok, hvs_6, List.cons.injEq, and_true] at hpr hpu hpz
  obtain ⟨p0, p1, p2, p3, p4, p5⟩ := hpr
  have B := Blk.new (u := u') (h := h') (tokE t) 30
  have sb := Step.push0 S0 u' h' (tokE t).toArray 30
  have w6b := w6.step0 sb
  have w7b := w7.step0 sb
  simp only [tokE] at B sb w6b w7b
  obtain ⟨hb, hhb⟩ : ∃ hb, hb = h'.push (.cells #[.int .i64 t.1, str t.2.1, .int .i64 t.2.2.1, .int .i64 t.2.2.2.1, .int .i64 t.2.2.2.2.1, .int .i64 t.2.2.2.2.2] 30) := ⟨_, rfl⟩
  obtain ⟨ub', hub⟩ : ∃ ub', ub' = ub u' h'.size 0 := ⟨_, rfl⟩
  rw [← hhb, ← hub] at B sb w6b w7b
  have hbs : hb.size = h'.size + 1 := by rw [hhb]; simp
  by_cases hir : i < r.length
  case neg =>
    obtain rfl : i = r.length := by omega
    have h0 := hend t ht
    simp only [h0] at hhb B p0
    simp (disch := first | omega | (simp only [e_ssz, e_psz, e_hszs, List.length_cons, List.length_nil]; try omega; done)) only [↓reduceIte, go_sem, LexSpaced_L1, e4, e8, hlt, p0, p1, p2, p3, p4, p5, ← hhb, B.at, B.2.1]
    refine ⟨r.length + 1, ?_, by omega⟩
    rw [hI]
    rw [List.take_of_length_le (by omega)] at w6b w7b hD e6 e7
    refine ⟨ub', _, _, ?_, ?_, ?_, ?_, ?_, hlt, st'.trans0 sb, by rw [List.take_of_length_le (by omega)]; exact w6b, by rw [List.take_of_length_le (by omega)]; exact w7b, hD⟩ <;> simp [upd, e3, e4, e6, e7]
  rw [hr3 i hir] at ht
  have htr := List.mem_of_getElem? ht
  have hg := hgood t htr
  obtain ⟨g1, g2, g3, g4, g5, g6⟩ := hg
  have htk : r.take (i + 1) = r.take i ++ [t] := by rw [List.take_add_one, ht]; rfl
  have hbl := base_len (hgt i)
  have hwl := wd_le hl16 (hgt i)
  rw [List.length_take, Nat.min_eq_left (by omega)] at hwl
  have n6b : ∀ b, OwnB (.slice a6 (spx s (r.take i)).length c6) b → b ≠ h'.size := fun b q => by have := w6.lt q; omega
  have n7b : ∀ b, OwnB (.slice a7 (offsF (r.take i)).length c7) b → b ≠ h'.size := fun b q => by have := w7.lt q; omega
  have B_1 := B.1
  have hol : (offsF (r.take i)).length = i := by rw [offs_len, List.length_take]; omega
  simp only [g2, g3] at hhb B p4 p5
  obtain ⟨hh9, hhh9⟩ : ∃ x, x = h'.size := ⟨_, rfl⟩
  rw [← hhh9] at n6b n7b B
  by_cases hi0 : i = 0
  · have hb0 : spx s (r.take i) = baseS s (r.take i) := by rw [hi0]; rfl
    rw [hb0] at w6b e6 m61 n6b hD
    have x6 := w6b
    have x7 := w7b
    have xst := st'.trans0 sb
    have xD := hD
    have xn6 := n6b
    have xB := B
    simp (disch := first | omega | (simp only [e_ssz, e_psz, e_hszs, List.length_cons, List.length_nil]; try omega; done)) only [↓reduceIte, go_sem, LexSpaced_L1, ← hhh9, e3, e4, e6, e7, e8, hlt, p0, p1, p2, p3, p4, p5, ← hhb, B.at, B.2.1, eq_false g1, eq_false (show ¬ ((oN t : Nat) : Int) < 0 by omega), eq_false (show ¬ ((s.length : Nat) : Int) < (eN t : Nat) by omega), eq_false (show ¬ ((eN t : Nat) : Int) ≤ (oN t : Nat) by omega), eq_false (show ¬ (0 : Int) < (i : Nat) by omega)]
    refine effS_app1q (by simp only []) x7 (x := ((Edict.wd (r.take i) : Nat) : Int)) (by rw [rep_int, hbl]) rfl rfl (by have := xst.ge.sz; omega) (by omega) fun a7' n7' c7' u5 h5 x7' s5 hO5 => ⟨by simp (disch := first | omega | (simp only [e_ssz, e_psz, e_hszs, List.length_cons, List.length_nil]; try omega; done)) only [go_sem], ?_⟩
    have y6 := x6.step s5 (fun b hb hq => xD b hb hq)
    have yB := xB.step s5 (fun q => n7b hh9 q rfl)
    have yD : ∀ b, OwnB (.slice a6 (baseS s (r.take i)).length c6) b → ¬ OwnB (.slice a7' n7' c7') b := fun b q q' => (hO5 b q').elim (xD b q) (fun z => by have := x6.lt q; omega)
    have yst := xst.trans s5 (fun b hb hq => by have := x7.ge hq; omega)
    have yB1 := yB.1
    obtain ⟨ma, mc, hme, -, -⟩ := x7'.sl
    simp only [Value.slice.injEq] at hme
    obtain ⟨rfl, rfl, rfl⟩ := hme
    simp (disch := first | omega | (simp only [e_ssz, e_psz, e_hszs, List.length_cons, List.length_nil]; try omega; done)) only [↓reduceIte, go_sem, yB.at, yB.2.1]
    obtain ⟨J, hJ⟩ : ∃ J : Nat → Env → H → Prop, J = fun j σ h' => ∃ (u' : U) (v6 : Value), σ 3 = str s ∧ σ 4 = .slice (some ⟨pb, po, none⟩) L.length wc ∧ σ 6 = v6 ∧ σ 7 = .slice a7' (offsF (r.take i) ++ [((Edict.wd (r.take i) : Nat) : Int)]).length c7' ∧ σ 8 = .int .i64 i ∧ σ 9 = .pointer (some ⟨hh9, 0, none⟩) ∧ σ 10 = .int .i64 ((oN t + j : Nat) : Int) ∧ j ≤ eN t - oN t ∧ Step S0 u3 h3 u' h' ∧ Own h3.size u' h' v6 (baseS s (r.take i) ++ (piece s t).take j) ∧ Own h3.size u' h' (.slice a7' (offsF (r.take i) ++ [((Edict.wd (r.take i) : Nat) : Int)]).length c7') (offsF (r.take i) ++ [((Edict.wd (r.take i) : Nat) : Int)]) ∧ (∀ b, OwnB v6 b → ¬ OwnB (.slice a7' (offsF (r.take i) ++ [((Edict.wd (r.take i) : Nat) : Int)]).length c7') b) ∧ Blk u' h' hh9 [.int .i64 t.1, str t.2.1, .int .i64 t.2.2.1, .int .i64 t.2.2.2.1, .int .i64 (oN t), .int .i64 (eN t)] ∧ ∀ b, OwnB v6 b → b ≠ hh9 := ⟨_, rfl⟩
    refine wpS_loop J (fun j => eN t - oN t - j) 0 (by rw [hJ]; exact ⟨u5, _, by simp [upd, e3], by simp [upd, e4], by simp [upd, e6], by simp [upd], by simp [upd, e8], by simp [upd, hhh9], by simp [upd], by omega, yst, by rw [List.take_zero, List.append_nil]; exact y6, x7', yD, yB, xn6⟩) ?_
    intro j σ' h'' hj'
    rw [hJ] at hj'
    obtain ⟨u'', v6, f3, f4, f6, f7, f8, f9, f10, hj, zst, z6, z7, zD, zB, zn⟩ := hj'
    obtain ⟨b6, d6, rfl, m61', m62'⟩ := z6.sl
    have zB1 := zB.1
    have hpl := piece_len ⟨g1, g2, g3, g4, g5, g6⟩
    by_cases hjl : j < eN t - oN t
    · have hbl' : (baseS s (r.take i) ++ (piece s t).take j).length ≤ 65537 * 65538 := by rw [List.length_append, hbl, List.length_take]; omega
      obtain ⟨acc, hacc⟩ : ∃ acc, acc = baseS s (r.take i) ++ (piece s t).take j := ⟨_, rfl⟩
      rw [← hacc] at z6 f6 zD zn hbl' m61'
      have hacc2 : acc ++ [UInt8.ofNat (bat s (oN t + j))] = baseS s (r.take i) ++ (piece s t).take (j + 1) := by rw [hacc, List.append_assoc, ← piece_get ⟨g1, g2, g3, g4, g5, g6⟩ hjl]
      simp (disch := first | omega | (simp only [e_ssz, e_psz, e_hszs, List.length_cons, List.length_nil]; try omega; done)) only [↓reduceIte, go_sem, LexSpaced_L2, f3, f6, f9, f10, zB.at, zB.2.1, eq_true (show ((oN t + j : Nat) : Int) < (eN t : Nat) by omega)]
      refine ⟨by omega, ?_⟩
      refine effS_app1q (by simp only []) z6 (x := UInt8.ofNat (bat s (oN t + j))) (cs := [.int .u8 ((bat s (oN t + j) : Nat) : Int)]) (by rw [rep_byte, byte_back (bat_lt _ _)]) rfl rfl (by have := zst.ge.sz; omega) (by omega) fun a9 n9 c9 u9 h9 x9 s9 hO9 => ⟨by simp (disch := first | omega | (simp only [e_ssz, e_psz, e_hszs, List.length_cons, List.length_nil]; try omega; done)) only [go_sem], ?_⟩
      obtain ⟨_, _, hme, -, -⟩ := x9.sl
      simp only [Value.slice.injEq] at hme
      obtain ⟨rfl, rfl, rfl⟩ := hme
      rw [hacc2] at x9 hO9
      have zB9 := zB.step s9 (fun q => zn _ q rfl)
      have zD9 : ∀ b, OwnB (.slice a9 (baseS s (r.take i) ++ (piece s t).take (j + 1)).length c9) b → ¬ OwnB (.slice a7' (offsF (r.take i) ++ [((Edict.wd (r.take i) : Nat) : Int)]).length c7') b := fun b q q' => (hO9 b q).elim (fun z => zD b z q') (fun z => by have := z7.lt q'; omega)
      have zn9 : ∀ b, OwnB (.slice a9 (baseS s (r.take i) ++ (piece s t).take (j + 1)).length c9) b → b ≠ hh9 := fun b q => (hO9 b q).elim (zn b) (fun z => by omega)
      rw [hacc2]
      simp (disch := first | omega | (simp only [e_ssz, e_psz, e_hszs, List.length_cons, List.length_nil]; try omega; done)) only [↓reduceIte, go_sem, f10]
      refine ⟨j + 1, ?_, by omega⟩
      rw [hJ]
      refine ⟨u9, _, ?_, ?_, ?_, ?_, ?_, ?_, ?_, by omega, zst.trans s9 (fun b hb hq => by have := z6.ge hq; omega), x9, z7.step s9 (fun b hb hq => zD b hq hb), zD9, zB9, zn9⟩
      all_goals simp [upd, f3, f4, f7, f8, f9]
      omega
    · obtain rfl : j = eN t - oN t := by omega
      rw [List.take_of_length_le (l := piece s t) (by omega), base_spx, ← htk] at z6 zD zn f6
      rw [← offs_snoc, ← htk] at z7 zD f7
      simp (disch := first | omega | (simp only [e_ssz, e_psz, e_hszs, List.length_cons, List.length_nil]; try omega; done)) only [↓reduceIte, go_sem, LexSpaced_L2, f8, f9, f10, zB.at, zB.2.1, eq_false (show ¬ ((oN t + (eN t - oN t) : Nat) : Int) < (eN t : Nat) by omega)]
      refine ⟨i + 1, ?_, by omega⟩
      rw [hI]
      refine ⟨u'', _, _, ?_, ?_, ?_, ?_, ?_, hlt, zst, z6, z7, zD⟩ <;> simp [upd, f3, f4, f6, f7]
  · simp (disch := first | omega | (simp only [e_ssz, e_psz, e_hszs, List.length_cons, List.length_nil]; try omega; done)) only [↓reduceIte, go_sem, LexSpaced_L1, ← hhh9, e3, e4, e6, e8, hlt, p0, p1, p2, p3, p4, p5, ← hhb, B.at, B.2.1, eq_false g1, eq_false (show ¬ ((oN t : Nat) : Int) < 0 by omega), eq_false (show ¬ ((s.length : Nat) : Int) < (eN t : Nat) by omega), eq_false (show ¬ ((eN t : Nat) : Int) ≤ (oN t : Nat) by omega), eq_true (show (0 : Int) < (i : Nat) by omega)]
    have hb0 : spx s (r.take i) ++ [32] = baseS s (r.take i) := by
      unfold baseS
      rw [if_neg (fun q => by have := congrArg List.length q; rw [List.length_take, List.length_nil] at this; omega)]
    have hspl : (spx s (r.take i)).length + 1 = Edict.wd (r.take i) := by rw [← hbl, ← hb0, List.length_append, List.length_singleton]
    refine effS_app1q (by simp only []) w6b (x := (32 : UInt8)) (cs := [.int .u8 32]) (by rw [rep_byte]; rfl) rfl rfl (by have := (st'.trans0 sb).ge.sz; omega) (by omega) fun a4 n4 c4 u4 h4 x6 s4 hO4 => ⟨by simp (disch := first | omega | (simp only [e_ssz, e_psz, e_hszs, List.length_cons, List.length_nil]; try omega; done)) only [go_sem], ?_⟩
    rw [hb0] at x6
    obtain ⟨_, _, hme4, -, -⟩ := x6.sl
    simp only [Value.slice.injEq] at hme4
    obtain ⟨rfl, rfl, rfl⟩ := hme4
    have x7 := w7b.step s4 (fun b hb q => hD b q hb)
    have xst := (st'.trans0 sb).trans s4 (fun b hb q => by have := w6b.ge q; omega)
    have xB := B.step s4 (fun q => n6b hh9 q rfl)
    have xD : ∀ b, OwnB (.slice a4 (baseS s (r.take i)).length c4) b → ¬ OwnB (.slice a7 (offsF (r.take i)).length c7) b := fun b q q' => (hO4 b q).elim (fun z => hD b z q') (fun z => by have := w7b.lt q'; omega)
    have xn6 : ∀ b, OwnB (.slice a4 (baseS s (r.take i)).length c4) b → b ≠ hh9 := fun b q => (hO4 b q).elim (n6b b) (fun z => by omega)
    have e6 : True := trivial
    simp (disch := first | omega | (simp only [e_ssz, e_psz, e_hszs, List.length_cons, List.length_nil]; try omega; done)) only [↓reduceIte, go_sem, e7]
    refine effS_app1q (by simp only []) x7 (x := ((Edict.wd (r.take i) : Nat) : Int)) (by rw [rep_int, hbl]) rfl rfl (by have := xst.ge.sz; omega) (by omega) fun a7' n7' c7' u5 h5 x7' s5 hO5 => ⟨by simp (disch := first | omega | (simp only [e_ssz, e_psz, e_hszs, List.length_cons, List.length_nil]; try omega; done)) only [go_sem], ?_⟩
    have y6 := x6.step s5 (fun b hb hq => xD b hb hq)
    have yB := xB.step s5 (fun q => n7b hh9 q rfl)
    have yD : ∀ b, OwnB (.slice a4 (baseS s (r.take i)).length c4) b → ¬ OwnB (.slice a7' n7' c7') b := fun b q q' => (hO5 b q').elim (xD b q) (fun z => by have := x6.lt q; omega)
    have yst := xst.trans s5 (fun b hb hq => by have := x7.ge hq; omega)
    have yB1 := yB.1
    obtain ⟨ma, mc, hme, -, -⟩ := x7'.sl
    simp only [Value.slice.injEq] at hme
    obtain ⟨rfl, rfl, rfl⟩ := hme
    simp (disch := first | omega | (simp only [e_ssz, e_psz, e_hszs, List.length_cons, List.length_nil]; try omega; done)) only [↓reduceIte, go_sem, yB.at, yB.2.1]
    obtain ⟨J, hJ⟩ : ∃ J : Nat → Env → H → Prop, J = fun j σ h' => ∃ (u' : U) (v6 : Value), σ 3 = str s ∧ σ 4 = .slice (some ⟨pb, po, none⟩) L.length wc ∧ σ 6 = v6 ∧ σ 7 = .slice a7' (offsF (r.take i) ++ [((Edict.wd (r.take i) : Nat) : Int)]).length c7' ∧ σ 8 = .int .i64 i ∧ σ 9 = .pointer (some ⟨hh9, 0, none⟩) ∧ σ 10 = .int .i64 ((oN t + j : Nat) : Int) ∧ j ≤ eN t - oN t ∧ Step S0 u3 h3 u' h' ∧ Own h3.size u' h' v6 (baseS s (r.take i) ++ (piece s t).take j) ∧ Own h3.size u' h' (.slice a7' (offsF (r.take i) ++ [((Edict.wd (r.take i) : Nat) : Int)]).length c7') (offsF (r.take i) ++ [((Edict.wd (r.take i) : Nat) : Int)]) ∧ (∀ b, OwnB v6 b → ¬ OwnB (.slice a7' (offsF (r.take i) ++ [((Edict.wd (r.take i) : Nat) : Int)]).length c7') b) ∧ Blk u' h' hh9 [.int .i64 t.1, str t.2.1, .int .i64 t.2.2.1, .int .i64 t.2.2.2.1, .int .i64 (oN t), .int .i64 (eN t)] ∧ ∀ b, OwnB v6 b → b ≠ hh9 := ⟨_, rfl⟩
    refine wpS_loop J (fun j => eN t - oN t - j) 0 (by rw [hJ]; exact ⟨u5, _, by simp [upd, e3], by simp [upd, e4], by simp [upd], by simp [upd], by simp [upd, e8], by simp [upd, hhh9], by simp [upd], by omega, yst, by rw [List.take_zero, List.append_nil]; exact y6, x7', yD, yB, xn6⟩) ?_
    intro j σ' h'' hj'
    rw [hJ] at hj'
    obtain ⟨u'', v6, f3, f4, f6, f7, f8, f9, f10, hj, zst, z6, z7, zD, zB, zn⟩ := hj'
    obtain ⟨b6, d6, rfl, m61', m62'⟩ := z6.sl
    have zB1 := zB.1
    have hpl := piece_len ⟨g1, g2, g3, g4, g5, g6⟩
    by_cases hjl : j < eN t - oN t
    · have hbl' : (baseS s (r.take i) ++ (piece s t).take j).length ≤ 65537 * 65538 := by rw [List.length_append, hbl, List.length_take]; omega
      obtain ⟨acc, hacc⟩ : ∃ acc, acc = baseS s (r.take i) ++ (piece s t).take j := ⟨_, rfl⟩
      rw [← hacc] at z6 f6 zD zn hbl' m61'
      have hacc2 : acc ++ [UInt8.ofNat (bat s (oN t + j))] = baseS s (r.take i) ++ (piece s t).take (j + 1) := by rw [hacc, List.append_assoc, ← piece_get ⟨g1, g2, g3, g4, g5, g6⟩ hjl]
      simp (disch := first | omega | (simp only [e_ssz, e_psz, e_hszs, List.length_cons, List.length_nil]; try omega; done)) only [↓reduceIte, go_sem, LexSpaced_L2, f3, f6, f9, f10, zB.at, zB.2.1, eq_true (show ((oN t + j : Nat) : Int) < (eN t : Nat) by omega)]
      refine ⟨by omega, ?_⟩
      refine effS_app1q (by simp only []) z6 (x := UInt8.ofNat (bat s (oN t + j))) (cs := [.int .u8 ((bat s (oN t + j) : Nat) : Int)]) (by rw [rep_byte, byte_back (bat_lt _ _)]) rfl rfl (by have := zst.ge.sz; omega) (by omega) fun a9 n9 c9 u9 h9 x9 s9 hO9 => ⟨by simp (disch := first | omega | (simp only [e_ssz, e_psz, e_hszs, List.length_cons, List.length_nil]; try omega; done)) only [go_sem], ?_⟩
      obtain ⟨_, _, hme, -, -⟩ := x9.sl
      simp only [Value.slice.injEq] at hme
      obtain ⟨rfl, rfl, rfl⟩ := hme
      rw [hacc2] at x9 hO9
      have zB9 := zB.step s9 (fun q => zn _ q rfl)
      have zD9 : ∀ b, OwnB (.slice a9 (baseS s (r.take i) ++ (piece s t).take (j + 1)).length c9) b → ¬ OwnB (.slice a7' (offsF (r.take i) ++ [((Edict.wd (r.take i) : Nat) : Int)]).length c7') b := fun b q q' => (hO9 b q).elim (fun z => zD b z q') (fun z => by have := z7.lt q'; omega)
      have zn9 : ∀ b, OwnB (.slice a9 (baseS s (r.take i) ++ (piece s t).take (j + 1)).length c9) b → b ≠ hh9 := fun b q => (hO9 b q).elim (zn b) (fun z => by omega)
      rw [hacc2]
      simp (disch := first | omega | (simp only [e_ssz, e_psz, e_hszs, List.length_cons, List.length_nil]; try omega; done)) only [↓reduceIte, go_sem, f10]
      refine ⟨j + 1, ?_, by omega⟩
      rw [hJ]
      refine ⟨u9, _, ?_, ?_, ?_, ?_, ?_, ?_, ?_, by omega, zst.trans s9 (fun b hb hq => by have := z6.ge hq; omega), x9, z7.step s9 (fun b hb hq => zD b hq hb), zD9, zB9, zn9⟩
      all_goals simp [upd, f3, f4, f7, f8, f9]
      omega
    · obtain rfl : j = eN t - oN t := by omega
      rw [List.take_of_length_le (l := piece s t) (by omega), base_spx, ← htk] at z6 zD zn f6
      rw [← offs_snoc, ← htk] at z7 zD f7
      simp (disch := first | omega | (simp only [e_ssz, e_psz, e_hszs, List.length_cons, List.length_nil]; try omega; done)) only [↓reduceIte, go_sem, LexSpaced_L2, f8, f9, f10, zB.at, zB.2.1, eq_false (show ¬ ((oN t + (eN t - oN t) : Nat) : Int) < (eN t : Nat) by omega)]
      refine ⟨i + 1, ?_, by omega⟩
      rw [hI]
      refine ⟨u'', _, _, ?_, ?_, ?_, ?_, ?_, hlt, zst, z6, z7, zD⟩ <;> simp [upd, f3, f4, f6, f7]
theorem LexSpaced_hc {s : List UInt8} {h : H} (hl : s.length ≤ 9223372036854775807) (hG : LxG (hsz h) h) : HCX Tryd.prog 7 [str s] h (fun v h' => v = .bool true ∧ Ext0 h h') fun _ _ => False :=
  LexSpaced_ok ⟨hsz h, s, rfl, hl, hG, fun u' h' st => ⟨rfl, st.ext⟩⟩
end Go.Proofs.YtbkpmdgeeolifaaDoor
