/- The law LexGaps. -/
import Derived.Test.YtbkpmdgeeolifaaDoorLexN
namespace Go.Proofs.YtbkpmdgeeolifaaDoor
open Go Go.Ev Edict
def G_LexGaps : Ctr := fun f vs h K _ => (f = 22 ∧ C_head vs h K) ∨ (f = 21 ∧ C_scan vs h K) ∨ (f = 23 ∧ C_begun vs h K) ∨ (f = 29 ∧ C_lxBlank vs h K) ∨ (f = 24 ∧ C_ended vs h K)
theorem G_LexGaps_ok : GOk Tryd.prog G_LexGaps := by
  rintro f vs h K KP (⟨rfl, hC⟩ | ⟨rfl, hC⟩ | ⟨rfl, hC⟩ | ⟨rfl, hC⟩ | ⟨rfl, hC⟩)
  · exact lwHead_ok hC
  · exact lxScan_ok hC
  · exact lwBegun_ok hC
  · exact lxBlank_ok hC
  · exact lwEnded_ok hC
theorem LexGaps_ok {vs : List Value} {h : H} {K : Value → H → Prop} {KP : List PanicEntry → H → Prop} (hC : C_law1 vs h K) : HCX Tryd.prog 12 vs h K KP := by
  obtain ⟨u, s0, rfl, hl0, hG, hK⟩ := hC
  refine LexGaps_H G_LexGaps G_LexGaps_ok _ ?_
  simp (disch := first | omega | (simp only [e_ssz, e_psz, e_hszs, List.length_cons, List.length_nil]; try omega; done)) only [↓reduceIte, go_sem, LexGaps_S, LexGaps_E]
  refine effS_call (.inl ⟨rfl, s0, rfl, hl0, ⟨by simp (disch := first | omega | (simp only [e_ssz, e_psz, e_hszs, List.length_cons, List.length_nil]; try omega; done)) only [go_sem], ?_⟩⟩)
  obtain ⟨s, hs⟩ : ∃ s, s = headF s0 := ⟨_, rfl⟩
  have hlen := scanF_len s
  have hl16 : s.length ≤ 65536 := by rw [hs]; exact (headF_len s0).1
  have hl : s.length ≤ 9223372036854775807 := by omega
  have hsc := head_scan s0
  rw [← hs] at hsc ⊢
  have hsk : scanF s = scanK s 0 := by unfold scanF scanK; rw [if_neg (by omega)]
  obtain ⟨c, hc⟩ : ∃ c, c = (scanF s).2.1 := ⟨_, rfl⟩
  obtain ⟨p, hp⟩ : ∃ p, p = (scanF s).2.2 := ⟨_, rfl⟩
  obtain ⟨L, hL⟩ : ∃ L, L = (scanF s).1 := ⟨_, rfl⟩
  have hL1 : L = aT :: (scanK s 1).1 := by rw [hL, hsc]
  have hall : scanK s 0 = (L, c, p) := by rw [← hsk, hL, hc, hp]
  have hsh := scan_shape (Nat.zero_le _) hall
  simp (disch := first | omega | (simp only [e_ssz, e_psz, e_hszs, List.length_cons, List.length_nil]; try omega; done)) only [↓reduceIte, go_sem]
  refine effS_call (.inr (.inl ⟨rfl, u, s, rfl, hl, hG, fun u2 h2 w s2 o2 => ⟨by simp (disch := first | omega | (simp only [e_ssz, e_psz, e_hszs, List.length_cons, List.length_nil]; try omega; done)) only [go_sem], ?_⟩⟩))
  rw [← hL] at o2 hlen
  obtain ⟨wa, wc, rfl, q1, q2⟩ := o2.sl
  rw [← hc, ← hp]
  have A3 := Blk.new (u := u2) (h := h2) (fltE c p) 25
  have s3 := Step.push0 S0 u2 h2 (fltE c p).toArray 25
  have st3 := s2.trans0 s3
  have o3 := (o2.step0 s3).isSl
  simp only [fltE] at A3 s3 st3 o3
  simp only [fltE]
  simp (disch := first | omega | (simp only [e_ssz, e_psz, e_hszs, List.length_cons, List.length_nil]; try omega; done)) only [↓reduceIte, go_sem]
  obtain ⟨h3, hh3⟩ : ∃ h3, h3 = h2.push (.cells #[.int .i64 c, .int .i64 0, .int .i64 (p : Int)] 25) := ⟨_, rfl⟩
  obtain ⟨u3, hu3⟩ : ∃ u3, u3 = ub u2 h2.size 0 := ⟨_, rfl⟩
  rw [← hh3, ← hu3] at A3 s3 st3 o3
  rw [← hh3]
  have hs3 : h3.size = h2.size + 1 := by rw [hh3]; simp
  clear hh3 hu3
  refine effS_call (.inr (.inr (.inl ⟨rfl, u3, _, _, rfl, by rw [← hL1]; exact o3, ⟨by simp (disch := first | omega | (simp only [e_ssz, e_psz, e_hszs, List.length_cons, List.length_nil]; try omega; done)) only [go_sem], ?_⟩⟩)))
  simp (disch := first | omega | (simp only [e_ssz, e_psz, e_hszs, List.length_cons, List.length_nil]; try omega; done)) only [↓reduceIte, go_sem]
  obtain ⟨I, hI⟩ : ∃ I : Nat → Env → H → Prop, I = fun j σ h' => ∃ (k : Nat) (u' : U), σ 3 = str s ∧ σ 4 = .slice wa L.length wc ∧ σ 5 = .pointer (some ⟨h2.size, 0, none⟩) ∧ σ 6 = .int .i64 k ∧ σ 7 = .int .i64 j ∧ j ≤ L.length ∧ k ≤ s.length ∧ Step S0 u3 h3 u' h' ∧ (scanK s k = (L.drop j, c, p) ∨ j = L.length ∧ c = 0) := ⟨_, rfl⟩
  refine wpS_loop I (fun j => L.length - j) 0 (by rw [hI]; exact ⟨0, u3, by simp [upd], by simp [upd], by simp [upd], by simp [upd], by simp [upd], by omega, by omega, Step.refl _ _ _, .inl hall⟩) ?_
  intro j σ h' hy
  rw [hI] at hy
  obtain ⟨k, u', e3, e4, e5, e6, e7, hj, hk, st', hx⟩ := hy
  have i' := o3.mono st'.ge
  have A' := A3.step0 st'
  have A'1 := A'.1
  by_cases hlt : j < L.length
  · have hd : L.drop j = L[j] :: L.drop (j + 1) := List.drop_eq_getElem_cons hlt
    have hLj : L[j]? = some L[j] := by simp [hlt]
    have hy : scanK s k = (L[j] :: L.drop (j + 1), c, p) := by
      rw [← hd]; exact hx.resolve_right (fun q => by omega)
    obtain ⟨t, ht⟩ : ∃ t, t = L[j] := ⟨_, rfl⟩
    rw [← ht] at hy hLj
    obtain ⟨hn, hz⟩ := scan_cons hk hy
    obtain ⟨pb, po, rfl, hpb, hpu, hpz, hpr⟩ := i'.row j t hLj
    obtain ⟨tc, tv, tn, tp, o, e, hte, r1, r2, r3, r4⟩ := next_ok hk hn
    clear ht
    subst hte
    have hga := (next_at hk hn).1
    have hbl := gap_piece hk hga
    rw [decide_eq_true hl16] at hbl
    rw [rep_tok] at hpr
    simp only [tokE, sz_tok, hvs_6, List.cons.injEq, and_true] at hpr hpu hpz
    obtain ⟨p0, p1, p2, p3, p4, p5⟩ := hpr
    have hoe : o ≤ e := by by_cases q : tc = 0; (have := (r3 q).1; omega); (have := r4 q; omega)
    have B := Blk.new (u := u') (h := h') (tokE (tc, tv, tn, tp, (o : Int), (e : Int))) 30
    have sb := Step.push0 S0 u' h' (tokE (tc, tv, tn, tp, (o : Int), (e : Int))).toArray 30
    simp only [tokE] at B sb hn hz r3 r4 hbl
    have fin : ∀ (σ' : Env) (h'' : H) (u'' : U), σ' 3 = str s → σ' 4 = .slice (some ⟨pb, po, none⟩) L.length wc → σ' 5 = .pointer (some ⟨h2.size, 0, none⟩) → σ' 6 = .int .i64 e → σ' 7 = .int .i64 ((j : Int) + 1) → Step S0 u' h' u'' h'' → ∃ y, I y σ' h'' ∧ L.length - y < L.length - j := by
      intro σ' h'' u'' w3 w4 w5 w6 w7 ws
      refine ⟨j + 1, ?_, by omega⟩
      rw [hI]
      refine ⟨e, u'', w3, w4, w5, w6, w7, hlt, r2, st'.trans0 ws, ?_⟩
      rcases hz with ⟨z1, z2, z3⟩ | ⟨z1, z2⟩
      · cases z3
        have : (L.drop (j + 1)).length = 0 := by rw [z2]; rfl
        rw [List.length_drop] at this
        exact .inr ⟨by omega, rfl⟩
      · rw [Int.toNat_natCast] at z2; exact .inl z2
    obtain ⟨hb, hhb⟩ : ∃ hb, hb = h'.push (.cells #[.int .i64 tc, str tv, .int .i64 tn, .int .i64 tp, .int .i64 (o : Int), .int .i64 (e : Int)] 30) := ⟨_, rfl⟩
    rw [← hhb] at B sb
    by_cases hc0 : tc = 0
    · obtain ⟨rfl, rfl, rfl, rfl, rfl⟩ := r3 hc0
      subst hc0
      simp (disch := first | omega | (simp only [e_ssz, e_psz, e_hszs, List.length_cons, List.length_nil]; try omega; done)) only [↓reduceIte, go_sem, LexGaps_L1, e3, e4, e6, e7, hlt, p0, p1, p2, p3, p4, p5, ← hhb, B.at, B.2.1, eq_false (show ¬ ((s.length : Nat) : Int) < (k : Nat) by omega)]
      refine effS_call (.inr (.inr (.inr (.inl ⟨rfl, s, _, _, rfl, hl, fun h5 x5 => ⟨by simp (disch := first | omega | (simp only [e_ssz, e_psz, e_hszs, List.length_cons, List.length_nil]; try omega; done)) only [go_sem], ?_⟩⟩))))
      rw [hbl]
      have s5 := Step.ofSame (u := ub u' h'.size 0) x5.1 x5.2.1
      have B5 := B.step0 s5
      have B51 := B5.1
      simp (disch := first | omega | (simp only [e_ssz, e_psz, e_hszs, List.length_cons, List.length_nil]; try omega; done)) only [↓reduceIte, go_sem, B5.at, B5.2.1, e7]
      refine fin _ _ _ ?_ ?_ ?_ ?_ ?_ (sb.trans0 s5) <;> simp [upd, e3, e4, e5]
    · have h4 := r4 hc0
      simp (disch := first | omega | (simp only [e_ssz, e_psz, e_hszs, List.length_cons, List.length_nil]; try omega; done)) only [↓reduceIte, go_sem, LexGaps_L1, e3, e4, e6, e7, hlt, p0, p1, p2, p3, p4, p5, ← hhb, B.at, B.2.1, eq_false (show ¬ ((o : Nat) : Int) < (k : Nat) by omega), eq_false (show ¬ ((e : Nat) : Int) < (o : Nat) by omega), eq_false (show ¬ ((s.length : Nat) : Int) < (e : Nat) by omega), eq_false (show ¬ ((e : Nat) : Int) = (o : Nat) by omega), eq_false hc0]
      refine effS_call (.inr (.inr (.inr (.inl ⟨rfl, s, _, _, rfl, hl, fun h5 x5 => ⟨by simp (disch := first | omega | (simp only [e_ssz, e_psz, e_hszs, List.length_cons, List.length_nil]; try omega; done)) only [go_sem], ?_⟩⟩))))
      rw [hbl]
      have s5 := Step.ofSame (u := ub u' h'.size 0) x5.1 x5.2.1
      have B5 := B.step0 s5
      have B51 := B5.1
      simp (disch := first | omega | (simp only [e_ssz, e_psz, e_hszs, List.length_cons, List.length_nil]; try omega; done)) only [↓reduceIte, go_sem, B5.at, B5.2.1, e7]
      refine fin _ _ _ ?_ ?_ ?_ ?_ ?_ (sb.trans0 s5) <;> simp [upd, e3, e4, e5]
  · obtain rfl : j = L.length := by omega
    have fin : ∀ (u'' : U) (h'' : H), Step S0 u' h' u'' h'' → K (.bool true) h'' := fun u'' h'' w => hK _ _ ((st3.trans0 st').trans0 w)
    by_cases hc0 : c = 0
    · subst hc0
      simp (disch := first | omega | (simp only [e_ssz, e_psz, e_hszs, List.length_cons, List.length_nil]; try omega; done)) only [↓reduceIte, go_sem, LexGaps_L1, e3, e4, e5, e7, A'.at, A'.2.1]
      obtain ⟨-, rfl, hE⟩ := hsh.resolve_left (fun q => q.1 rfl)
      refine effS_call (.inr (.inr (.inr (.inr ⟨rfl, u', _, _, _, _, _, rfl, i', .inr ⟨rfl, rfl, hE⟩, fun u5 h5 s5 => ⟨by simp (disch := first | omega | (simp only [e_ssz, e_psz, e_hszs, List.length_cons, List.length_nil]; try omega; done)) only [go_sem], ?_⟩⟩))))
      simp (disch := first | omega | (simp only [e_ssz, e_psz, e_hszs, List.length_cons, List.length_nil]; try omega; done)) only [↓reduceIte, go_sem]
      exact fin _ _ s5
    · obtain ⟨-, -, hpl, hne⟩ := hsh.resolve_right (fun q => hc0 q.1)
      have hnil : scanK s k = ([], c, p) := by
        have := hx.resolve_right (fun q => hc0 q.2)
        rwa [List.drop_length] at this
      obtain ⟨n1, n2, n3, n4, n5, n6, n7⟩ := next_bad hk (scan_nil hnil)
      have hLn : 0 < L.length := by rw [hL1]; simp
      obtain ⟨t, ht⟩ : ∃ t, L[L.length - 1]? = some t := ⟨L[L.length - 1], by simp [show L.length - 1 < L.length by omega]⟩
      have htn := hne t (List.mem_of_getElem? ht)
      obtain ⟨pb, po, rfl, hpb, hpu, hpz, hpr⟩ := i'.row _ t ht
      rw [rep_tok] at hpr
      simp only [tokE, sz_tok, hvs_6, List.cons.injEq, and_true] at hpr hpu hpz
      obtain ⟨p0, p1, p2, p3, p4, p5⟩ := hpr
      have el : ((L.length : Nat) : Int) - 1 = ((L.length - 1 : Nat) : Int) := by omega
      by_cases h16 : c = 16
      · subst h16
        simp (disch := first | omega | (simp only [e_ssz, e_psz, e_hszs, List.length_cons, List.length_nil]; try omega; done)) only [↓reduceIte, go_sem, LexGaps_L1, e3, e4, e5, e6, e7, A'.at, A'.2.1, el, p0, eq_false htn, eq_false (show ¬ ((p : Nat) : Int) < (k : Nat) by omega), eq_false (show ¬ ((s.length : Nat) : Int) ≤ (p : Nat) by omega)]
        exact ⟨by omega, fin _ _ (Step.refl _ _ _)⟩
      · by_cases h12 : c = 12
        · subst h12
          simp (disch := first | omega | (simp only [e_ssz, e_psz, e_hszs, List.length_cons, List.length_nil]; try omega; done)) only [↓reduceIte, go_sem, LexGaps_L1, e3, e4, e5, e6, e7, A'.at, A'.2.1, el, p0, eq_false htn, eq_false (show ¬ ((p : Nat) : Int) < (k : Nat) by omega), eq_false (show ¬ ((s.length : Nat) : Int) ≤ (p : Nat) by omega)]
          exact ⟨by omega, fin _ _ (Step.refl _ _ _)⟩
        · have hbl := gap_piece hk (n6 h16 h12)
          rw [decide_eq_true hl16] at hbl
          simp (disch := first | omega | (simp only [e_ssz, e_psz, e_hszs, List.length_cons, List.length_nil]; try omega; done)) only [↓reduceIte, go_sem, LexGaps_L1, e3, e4, e5, e6, e7, A'.at, A'.2.1, el, p0, eq_false htn, eq_false (show ¬ ((p : Nat) : Int) < (k : Nat) by omega), eq_false (show ¬ ((s.length : Nat) : Int) ≤ (p : Nat) by omega), eq_false hc0, eq_false h16, eq_false h12]
          refine ⟨by omega, ?_⟩
          refine effS_call (.inr (.inr (.inr (.inl ⟨rfl, s, _, _, rfl, hl, fun h5 x5 => ⟨by simp (disch := first | omega | (simp only [e_ssz, e_psz, e_hszs, List.length_cons, List.length_nil]; try omega; done)) only [go_sem], ?_⟩⟩))))
          rw [hbl]
          simp (disch := first | omega | (simp only [e_ssz, e_psz, e_hszs, List.length_cons, List.length_nil]; try omega; done)) only [↓reduceIte, go_sem]
          exact fin _ _ (Step.ofSame x5.1 x5.2.1)
theorem LexGaps_hc {s : List UInt8} {h : H} (hl : s.length ≤ 9223372036854775807) (hG : LxG (hsz h) h) : HCX Tryd.prog 12 [str s] h (fun v h' => v = .bool true ∧ Ext0 h h') fun _ _ => False :=
  LexGaps_ok ⟨hsz h, s, rfl, hl, hG, fun u' h' st => ⟨rfl, st.ext⟩⟩
end Go.Proofs.YtbkpmdgeeolifaaDoor
