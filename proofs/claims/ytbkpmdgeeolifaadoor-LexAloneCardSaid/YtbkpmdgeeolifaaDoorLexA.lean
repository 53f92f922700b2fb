/- The law LexAlone. -/
import Derived.Test.YtbkpmdgeeolifaaDoorLexO
namespace Go.Proofs.YtbkpmdgeeolifaaDoor
open Go Go.Ev Edict
def G_LexAlone : Ctr := fun f vs h K _ => (f = 22 ∧ C_head vs h K) ∨ (f = 21 ∧ C_scan vs h K) ∨ (f = 23 ∧ C_begun vs h K) ∨ (f = 24 ∧ C_ended vs h K) ∨ (f = 25 ∧ C_moved vs h K)
theorem G_LexAlone_ok : GOk Tryd.prog G_LexAlone := by
  rintro f vs h K KP (⟨rfl, hC⟩ | ⟨rfl, hC⟩ | ⟨rfl, hC⟩ | ⟨rfl, hC⟩ | ⟨rfl, hC⟩)
  · exact lwHead_ok hC
  · exact lxScan_ok hC
  · exact lwBegun_ok hC
  · exact lwEnded_ok hC
  · exact lwMoved_ok hC
theorem LexAlone_ok {vs : List Value} {h : H} {K : Value → H → Prop} {KP : List PanicEntry → H → Prop} (hC : C_law1 vs h K) : HCX Tryd.prog 6 vs h K KP := by
  obtain ⟨u, s0, rfl, hl0, hG, hK⟩ := hC
  refine LexAlone_H G_LexAlone G_LexAlone_ok _ ?_
  simp (disch := first | omega | (simp only [e_ssz, e_psz, e_hszs, List.length_cons, List.length_nil]; try omega; done)) only [↓reduceIte, go_sem, LexAlone_S, LexAlone_E]
  refine effS_call (.inl ⟨rfl, s0, rfl, hl0, ⟨by simp (disch := first | omega | (simp only [e_ssz, e_psz, e_hszs, List.length_cons, List.length_nil]; try omega; done)) only [go_sem], ?_⟩⟩)
  obtain ⟨s, hs⟩ : ∃ s, s = headF s0 := ⟨_, rfl⟩
  have hlen := scanF_len s
  have hl16 : s.length ≤ 65536 := by rw [hs]; exact (headF_len s0).1
  have hl : s.length ≤ 9223372036854775807 := by omega
  have hsc := head_scan s0
  rw [← hs] at hsc ⊢
  have hsk : scanF s = scanK s 0 := scanF_K hl16
  obtain ⟨c, hc⟩ : ∃ c, c = (scanF s).2.1 := ⟨_, rfl⟩
  obtain ⟨p, hp⟩ : ∃ p, p = (scanF s).2.2 := ⟨_, rfl⟩
  obtain ⟨L, hL⟩ : ∃ L, L = (scanF s).1 := ⟨_, rfl⟩
  have hL1 : L = aT :: (scanK s 1).1 := by rw [hL, hsc]
  have hall : scanK s 0 = (L, c, p) := by rw [← hsk, hL, hc, hp]
  have hsh := scan_shape (Nat.zero_le _) hall
  simp (disch := first | omega | (simp only [e_ssz, e_psz, e_hszs, List.length_cons, List.length_nil]; try omega; done)) only [↓reduceIte, go_sem]
  refine effS_call (.inr (.inl ⟨rfl, u, s, rfl, hl, hG, fun u2 h2 w s2 o2 => ⟨by simp (disch := first | omega | (simp only [e_ssz, e_psz, e_hszs, List.length_cons, List.length_nil]; try omega; done)) only [go_sem], ?_⟩⟩))
  rw [← hL] at o2 hlen
  obtain ⟨wa, wc, rfl, q1, q2⟩ := o2.sl
  rw [← hc, ← hp]
  have A3 := Blk.new (u := u2) (h := h2) (fltE c p) 25
  have s3 := Step.push0 S0 u2 h2 (fltE c p).toArray 25
  have st3 := s2.trans0 s3
  have o3 := (o2.step0 s3).isSl
  simp only [fltE] at A3 s3 st3 o3
  simp only [fltE]
  simp (disch := first | omega | (simp only [e_ssz, e_psz, e_hszs, List.length_cons, List.length_nil]; try omega; done)) only [↓reduceIte, go_sem]
  obtain ⟨h3, hh3⟩ : ∃ h3, h3 = h2.push (.cells #[.int .i64 c, .int .i64 0, .int .i64 (p : Int)] 25) := ⟨_, rfl⟩
  obtain ⟨u3, hu3⟩ : ∃ u3, u3 = ub u2 h2.size 0 := ⟨_, rfl⟩
  rw [← hh3, ← hu3] at A3 s3 st3 o3
  rw [← hh3]
  have hs3 : h3.size = h2.size + 1 := by rw [hh3]; simp
  clear hh3 hu3
  refine effS_call (.inr (.inr (.inl ⟨rfl, u3, _, _, rfl, by rw [← hL1]; exact o3, ⟨by simp (disch := first | omega | (simp only [e_ssz, e_psz, e_hszs, List.length_cons, List.length_nil]; try omega; done)) only [go_sem], ?_⟩⟩)))
  simp (disch := first | omega | (simp only [e_ssz, e_psz, e_hszs, List.length_cons, List.length_nil]; try omega; done)) only [↓reduceIte, go_sem]
  obtain ⟨I, hI⟩ : ∃ I : Nat → Env → H → Prop, I = fun j σ h' => ∃ u' : U, σ 3 = str s ∧ σ 4 = .slice wa L.length wc ∧ σ 6 = .int .i64 j ∧ j ≤ L.length ∧ Step S0 u3 h3 u' h' := ⟨_, rfl⟩
  refine wpS_loop I (fun j => L.length - j) 0 (by rw [hI]; exact ⟨u3, by simp [upd], by simp [upd], by simp [upd], by omega, Step.refl _ _ _⟩) ?_
  intro j σ h' hy
  rw [hI] at hy
  obtain ⟨u', e3, e4, e6, hj, st'⟩ := hy
  have i' := o3.mono st'.ge
  by_cases hlt : j < L.length
  case neg =>
    simp (disch := first | omega | (simp only [e_ssz, e_psz, e_hszs, List.length_cons, List.length_nil]; try omega; done)) only [↓reduceIte, go_sem, LexAlone_L1, e4, e6, hlt]
    exact hK _ _ (st3.trans0 st')
  have hLj : L[j]? = some L[j] := by simp [hlt]
  obtain ⟨t, ht⟩ : ∃ t, t = L[j] := ⟨_, rfl⟩
  rw [← ht] at hLj
  have hmem := List.mem_of_getElem? hLj
  clear ht
  obtain ⟨pb, po, rfl, hpb, hpu, hpz, hpr⟩ := i'.row j t hLj
  rw [rep_tok] at hpr
  simp only [tokE, sz_tok, hvs_6, List.cons.injEq, and_true] at hpr hpu hpz
  obtain ⟨p0, p1, p2, p3, p4, p5⟩ := hpr
  have B := Blk.new (u := u') (h := h') (tokE t) 30
  have sb := Step.push0 S0 u' h' (tokE t).toArray 30
  simp only [tokE] at B sb
  obtain ⟨hb, hhb⟩ : ∃ hb, hb = h'.push (.cells #[.int .i64 t.1, str t.2.1, .int .i64 t.2.2.1, .int .i64 t.2.2.2.1, .int .i64 t.2.2.2.2.1, .int .i64 t.2.2.2.2.2] 30) := ⟨_, rfl⟩
  obtain ⟨ub', hub⟩ : ∃ ub', ub' = ub u' h'.size 0 := ⟨_, rfl⟩
  rw [← hhb, ← hub] at B sb
  have fin : ∀ (σ' : Env) (h'' : H) (u'' : U), σ' 3 = str s → σ' 4 = .slice (some ⟨pb, po, none⟩) L.length wc → σ' 6 = .int .i64 ((j : Int) + 1) → Step S0 u' h' u'' h'' → ∃ y, I y σ' h'' ∧ L.length - y < L.length - j := by
    intro σ' h'' u'' w3 w4 w6 ws
    refine ⟨j + 1, ?_, by omega⟩
    rw [hI]
    exact ⟨u'', w3, w4, w6, hlt, st'.trans0 ws⟩
  by_cases h0 : t.1 = 0
  · simp only [h0] at hhb B p0
    simp (disch := first | omega | (simp only [e_ssz, e_psz, e_hszs, List.length_cons, List.length_nil]; try omega; done)) only [↓reduceIte, go_sem, LexAlone_L1, e4, e6, hlt, p0, p1, p2, p3, p4, p5, ← hhb, B.at, B.2.1]
    refine fin _ _ _ ?_ ?_ ?_ sb <;> simp [upd, e3, e4]
  obtain ⟨tc, tv, tn, tp, o, e, hte, r1, r2, r3, r4⟩ := scan_mem (Nat.zero_le _) hall t hmem h0
  subst hte
  simp only at h0 B sb hhb
  have hal := alone_cut hl16 r4 h0 r2 r3
  have eo : (e : Int) - (o : Int) = ((e - o : Nat) : Int) := by omega
  have hlp : ((s.take e).drop o).length = e - o := by simp; omega
  simp (disch := first | omega | (simp only [e_ssz, e_psz, e_hszs, List.length_cons, List.length_nil]; try omega; done)) only [↓reduceIte, go_sem, LexAlone_L1, e3, e4, e6, hlt, p0, p1, p2, p3, p4, p5, ← hhb, B.at, B.2.1, eq_false h0, eq_false (show ¬ ((o : Nat) : Int) < 0 by omega), eq_false (show ¬ ((s.length : Nat) : Int) < (e : Nat) by omega), eq_false (show ¬ ((e : Nat) : Int) ≤ (o : Nat) by omega), Int.toNat_natCast]
  refine ⟨by omega, by omega, ?_⟩
  refine effS_call (.inr (.inl ⟨rfl, ub', _, rfl, by omega, hG.mono ((st3.trans0 st').trans0 sb).ge, fun u5 h5 w5 s5 o5 => ⟨by simp (disch := first | omega | (simp only [e_ssz, e_psz, e_hszs, List.length_cons, List.length_nil]; try omega; done)) only [go_sem], ?_⟩⟩))
  rw [hal] at o5 ⊢
  have e00 : ((0 : Nat) : Int) = 0 := rfl
  simp only [e00] at o5 ⊢
  obtain ⟨va, vc, rfl, k1, k2⟩ := o5.sl
  have B5 := B.step0 s5
  have B6 := B5.step0 (Step.push0 S0 u5 h5 (fltE 0 0).toArray 25)
  have F6 := Blk.new (u := u5) (h := h5) (fltE 0 0) 25
  have s6 := Step.push0 S0 u5 h5 (fltE 0 0).toArray 25
  have o6 := (o5.step0 s6).isSl
  have st6 := (sb.trans0 s5).trans0 s6
  simp only [fltE] at F6 s6 o6 st6 B6
  simp only [fltE]
  simp only [List.length_cons, List.length_nil] at k1 o6 ⊢
  simp (disch := first | omega | (simp only [e_ssz, e_psz, e_hszs, List.length_cons, List.length_nil]; try omega; done)) only [↓reduceIte, go_sem]
  obtain ⟨h6, hh6⟩ : ∃ h6, h6 = h5.push (.cells #[.int .i64 0, .int .i64 0, .int .i64 0] 25) := ⟨_, rfl⟩
  obtain ⟨u6, hu6⟩ : ∃ u6, u6 = ub u5 h5.size 0 := ⟨_, rfl⟩
  rw [← hh6, ← hu6] at F6 o6 st6 B6
  have F61 := F6.1
  simp (disch := first | omega | (simp only [e_ssz, e_psz, e_hszs, List.length_cons, List.length_nil]; try omega; done)) only [go_sem, B6.at, B6.2.1, ← hh6, eo]
  refine effS_call (.inr (.inr (.inr (.inl ⟨rfl, u6, _, _, 0, 0, _, rfl, o6, .inr ⟨rfl, rfl, [(tc, tv, tn, tp, 0, ((e - o : Nat) : Int))], rfl, fun t ht => by rw [List.mem_singleton.1 ht]; exact h0⟩, fun u7 h7 s7 => ⟨by simp (disch := first | omega | (simp only [e_ssz, e_psz, e_hszs, List.length_cons, List.length_nil]; try omega; done)) only [go_sem], ?_⟩⟩))))
  obtain ⟨qb, qo, rfl, hqb, hqu, hqz, hqr⟩ := (o6.mono s7.ge).row 0 _ rfl
  rw [rep_tok] at hqr
  simp only [tokE, sz_tok, hvs_6, List.cons.injEq, and_true, Nat.zero_mul, Nat.add_zero] at hqr hqu hqz
  obtain ⟨w0, w1, w2, w3, w4, w5⟩ := hqr
  have B7 := B6.step0 s7
  have B71 := B7.1
  simp (disch := first | omega | (simp only [e_ssz, e_psz, e_hszs, List.length_cons, List.length_nil]; try omega; done)) only [↓reduceIte, go_sem, B7.at, B7.2.1, w0, w1, w2, w3, w4, w5]
  refine effS_call (.inr (.inr (.inr (.inr ⟨rfl, u7, tc, tv, tn, tp, 0, e - o, o, e, rfl, by omega, by omega, by omega, by omega, by omega, fun u8 h8 s8 => ⟨by simp (disch := first | omega | (simp only [e_ssz, e_psz, e_hszs, List.length_cons, List.length_nil]; try omega; done)) only [go_sem], ?_⟩⟩))))
  simp (disch := first | omega | (simp only [e_ssz, e_psz, e_hszs, List.length_cons, List.length_nil]; try omega; done)) only [↓reduceIte, go_sem, e6]
  refine fin _ _ _ ?_ ?_ ?_ ((st6.trans0 s7).trans0 s8) <;> simp [upd, e3, e4]
theorem LexAlone_hc {s : List UInt8} {h : H} (hl : s.length ≤ 9223372036854775807) (hG : LxG (hsz h) h) : HCX Tryd.prog 6 [str s] h (fun v h' => v = .bool true ∧ Ext0 h h') fun _ _ => False :=
  LexAlone_ok ⟨hsz h, s, rfl, hl, hG, fun u' h' st => ⟨rfl, st.ext⟩⟩
end Go.Proofs.YtbkpmdgeeolifaaDoor
