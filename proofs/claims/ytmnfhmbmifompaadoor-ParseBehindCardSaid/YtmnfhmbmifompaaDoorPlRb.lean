/- The law ParseBehind. -/
import Derived.Test.YtmnfhmbmifompaaDoorPlQ
import Derived.Test.YtmnfhmbmifompaaDoorPlG
import Derived.Test.YtmnfhmbmifompaaDoorPlU4
namespace Go.Ev
open Go Rep Edict
theorem tokB_at {u : U} {h : H} {pb po n c : Nat} {L : List Tok} (hs : IsSl u h (.slice (some ⟨pb, po, none⟩) n c) L) (i : Nat) {t : Tok} (ht : L[i]? = some t) :
    pb < h.size ∧ po + i * 6 + 6 ≤ hsz h pb ∧ hv h pb (po + i * 6) = .int .i64 t.1 ∧ hv h pb (po + i * 6 + 1) = str t.2.1 ∧ hv h pb (po + i * 6 + 2) = .int .i64 t.2.2.1 ∧ hv h pb (po + i * 6 + 3) = .int .i64 t.2.2.2.1 ∧ hv h pb (po + i * 6 + 4) = .int .i64 t.2.2.2.2.1 ∧ hv h pb (po + i * 6 + 5) = .int .i64 t.2.2.2.2.2 := by
  obtain ⟨pb', po', he, hpb, hpu, hpz, hpr⟩ := hs.row i t ht
  cases he
  rw [rep_tok] at hpr
  simp only [tokE, sz_tok, hvs_6, List.cons.injEq, and_true] at hpr hpu hpz
  obtain ⟨p0, p1, p2, p3, p4, p5⟩ := hpr
  exact ⟨hpb, hpz, p0, p1, p2, p3, p4, p5⟩
end Go.Ev
namespace Go.Proofs.YtmnfhmbmifompaaDoor
open Go Go.Ev Edict
def C_law2 (vs : List Value) (h : H) (K : Value → H → Prop) : Prop := ∃ (u : U) (s m : List UInt8), vs = [str s, str m] ∧ s.length ≤ 9223372036854775807 ∧ m.length ≤ 140737488351232 ∧ LxG u h ∧ ∀ u' h', Step S0 u h u' h' → K (.bool true) h'
def G_BehL : Ctr := fun f vs h K _ => (f = 31 ∧ C_scan vs h K) ∨ (f = 43 ∧ C_faultOf vs h K) ∨ (f = 29 ∧ C_taken vs h K)
theorem G_BehL_ok : GOk Tryd.prog G_BehL := by
  rintro f vs h K KP (⟨rfl, hC⟩ | ⟨rfl, hC⟩ | ⟨rfl, hC⟩)
  · exact lxScan_ok hC
  · exact plFaultOf_ok hC
  · exact plTaken_ok hC
theorem ParseBehind_ok {vs : List Value} {h : H} {K : Value → H → Prop} {KP : List PanicEntry → H → Prop} (hC : C_law2 vs h K) : HCX Tryd.prog 15 vs h K KP := by
  obtain ⟨u, src, more, rfl, hl, hm, hG, hK⟩ := hC
  refine ParseBehind_H G_BehL G_BehL_ok _ _ ?_
  simp (disch := first | omega | (simp only [e_ssz, e_psz, e_hszs, List.length_cons, List.length_nil]; try omega; done)) only [↓reduceIte, go_sem, ParseBehind_S, ParseBehind_E]
  refine effS_call (.inl ⟨rfl, u, src, rfl, hl, hG, fun u1 h1 w1 s1 o1 => ⟨by simp (disch := first | omega | (simp only [e_ssz, e_psz, e_hszs, List.length_cons, List.length_nil]; try omega; done)) only [go_sem], ?_⟩⟩)
  obtain ⟨L, hL⟩ : ∃ L, L = (scanF src).1 := ⟨_, rfl⟩
  obtain ⟨c, hc⟩ : ∃ c, c = (scanF src).2.1 := ⟨_, rfl⟩
  obtain ⟨p, hp⟩ : ∃ p, p = (scanF src).2.2 := ⟨_, rfl⟩
  have hbeh := fun f => @flt_behind f src more
  rw [← hL] at hbeh o1
  rw [← hc, ← hp]
  obtain ⟨a1, c1, rfl, m1, m2⟩ := o1.sl
  simp only [fltE]
  have s2 := Step.push0 S0 u1 h1 #[.int .i64 c, .int .i64 0, .int .i64 (p : Nat)] 27
  obtain ⟨h2, hh2⟩ : ∃ h2, h2 = h1.push (.cells #[.int .i64 c, .int .i64 0, .int .i64 (p : Nat)] 27) := ⟨_, rfl⟩
  obtain ⟨u2, hu2⟩ : ∃ u2, u2 = ub u1 h1.size 0 := ⟨_, rfl⟩
  rw [← hh2, ← hu2] at s2
  have i2 := o1.isSl.mono s2.ge
  have st2 := s1.trans0 s2
  have hmx := mlen'
  simp (disch := first | omega | (simp only [e_ssz, e_psz, e_hszs, List.length_cons, List.length_nil]; try omega; done)) only [↓reduceIte, go_sem, ← hh2]
  clear s1 s2 o1 hh2 hu2 hL hc hp
  obtain ⟨I, hI⟩ : ∃ I : Nat → Env → H → Prop, I = fun k σ' h' => ∃ u', σ' 0 = str src ∧ σ' 1 = str more ∧ σ' 5 = .slice a1 L.length c1 ∧ σ' 17 = .int .i64 (k : Nat) ∧ k ≤ 4 ∧ Step S0 u2 h2 u' h' := ⟨_, rfl⟩
  refine wpS_loop I (fun j => 4 - j) 0 (by rw [hI]; exact ⟨u2, by simp [upd], by simp [upd], by simp [upd], by simp [upd], by omega, Step.refl _ _ _⟩) ?_
  intro k σ' h' hy
  rw [hI] at hy
  obtain ⟨u', f0, f1, f5, f17, hk, st'⟩ := hy
  have st := st2.trans0 st'
  by_cases hlt : k < 4
  case neg =>
    simp (disch := first | omega | (simp only [e_ssz, e_psz, e_hszs, List.length_cons, List.length_nil]; try omega; done)) only [↓reduceIte, go_sem, ParseBehind_L1, f17, eq_false (show ¬ (k : Int) < 4 by omega)]
    refine effS_call (.inr (.inr ⟨rfl, u', rfl, hG.mono st.ge, fun u9 h9 s9 => ⟨by simp (disch := first | omega | (simp only [e_ssz, e_psz, e_hszs, List.length_cons, List.length_nil]; try omega; done)) only [go_sem], ?_⟩⟩))
    simp (disch := first | omega | (simp only [e_ssz, e_psz, e_hszs, List.length_cons, List.length_nil]; try omega; done)) only [↓reduceIte, go_sem]
    exact hK _ _ (st.trans0 s9)
  simp (disch := first | omega | (simp only [e_ssz, e_psz, e_hszs, List.length_cons, List.length_nil]; try omega; done)) only [↓reduceIte, go_sem, ParseBehind_L1, f0, f17, eq_true (show (k : Int) < 4 by omega)]
  refine effS_call (.inr (.inl ⟨rfl, u', k, src, rfl, hlt, hl, hG.mono st.ge, fun u3 h3 s3 => ⟨by simp (disch := first | omega | (simp only [e_ssz, e_psz, e_hszs, List.length_cons, List.length_nil]; try omega; done)) only [go_sem], ?_⟩⟩))
  have hF := hbeh (rdF k)
  obtain ⟨F, hFe⟩ : ∃ F, F = fltF (rdF k) src := ⟨_, rfl⟩
  rw [← hFe] at hF ⊢
  obtain ⟨g1, g2⟩ := F
  simp only at hF
  simp only [fltV]
  have s4 := Step.push0 S0 u3 h3 #[.int .i64 g1, .int .i64 0, .int .i64 g2] 27
  have B6 := Blk.new (u := u3) (h := h3) [.int .i64 g1, .int .i64 0, .int .i64 g2] 27
  obtain ⟨h4, hh4⟩ : ∃ h4, h4 = h3.push (.cells #[.int .i64 g1, .int .i64 0, .int .i64 g2] 27) := ⟨_, rfl⟩
  obtain ⟨u4, hu4⟩ : ∃ u4, u4 = ub u3 h3.size 0 := ⟨_, rfl⟩
  have B6' : Blk u4 h4 h3.size [.int .i64 g1, .int .i64 0, .int .i64 g2] := by rw [hu4, hh4]; exact B6
  rw [← hh4, ← hu4] at s4
  clear B6
  have B61 := B6'.1
  obtain ⟨fb, hfb⟩ : ∃ fb, fb = h3.size := ⟨_, rfl⟩
  rw [← hfb] at B6' B61
  have st4' := (st'.trans0 s3).trans0 s4
  have st4 := st2.trans0 st4'
  have next : ∀ (σ'' : Env) (u5 : U) (h5 : H), σ'' 0 = str src → σ'' 1 = str more → σ'' 5 = .slice a1 L.length c1 → σ'' 17 = .int .i64 ((k : Int) + 1) → Step S0 u4 h4 u5 h5 → ∃ y, I y σ'' h5 ∧ 4 - y < 4 - k := by
    intro σ'' u5 h5 e0 e1 e5 e17 s5
    refine ⟨k + 1, ?_, by omega⟩
    rw [hI]
    exact ⟨u5, e0, e1, e5, by rw [e17]; rfl, hlt, st4'.trans0 s5⟩
  by_cases hlo : g1 < 20
  · simp (disch := first | omega | (simp only [e_ssz, e_psz, e_hszs, List.length_cons, List.length_nil]; try omega; done)) only [↓reduceIte, go_sem, f17, ← hh4, ← hfb, B6'.at, B6'.2.1, eq_true hlo]
    exact next _ u4 h4 (by simp [upd, f0]) (by simp [upd, f1]) (by simp [upd, f5]) (by simp [upd]) (Step.refl _ _ _)
  by_cases hhi : 24 < g1
  · simp (disch := first | omega | (simp only [e_ssz, e_psz, e_hszs, List.length_cons, List.length_nil]; try omega; done)) only [↓reduceIte, go_sem, f17, ← hh4, ← hfb, B6'.at, B6'.2.1, eq_false hlo, eq_true hhi]
    exact next _ u4 h4 (by simp [upd, f0]) (by simp [upd, f1]) (by simp [upd, f5]) (by simp [upd]) (Step.refl _ _ _)
  by_cases h21 : g1 = 21
  · simp (disch := first | omega | (simp only [e_ssz, e_psz, e_hszs, List.length_cons, List.length_nil]; try omega; done)) only [↓reduceIte, go_sem, f17, ← hh4, ← hfb, B6'.at, B6'.2.1, eq_false hlo, eq_false hhi, eq_true h21]
    exact next _ u4 h4 (by simp [upd, f0]) (by simp [upd, f1]) (by simp [upd, f5]) (by simp [upd]) (Step.refl _ _ _)
  have hsl : src.length ≤ 65536 := (flt_at (f := rdF k) (src := src) (by rw [← hFe]; show 20 ≤ g1; omega)).1
  obtain ⟨t, t1, t2, t3, t4, t5, t6, t7⟩ := hF (by omega) h21
  obtain ⟨e, he⟩ : ∃ e : Nat, t.2.2.2.2.2 = (e : Int) := ⟨t.2.2.2.2.2.toNat, by have := t3; omega⟩
  rw [he] at t3 t5 t7
  rw [Int.toNat_natCast] at t7
  simp (disch := first | omega | (simp only [e_ssz, e_psz, e_hszs, List.length_cons, List.length_nil]; try omega; done)) only [↓reduceIte, go_sem, f5, ← hh4, ← hfb, B6'.at, B6'.2.1, eq_false hlo, eq_false hhi, eq_false h21]
  obtain ⟨J, hJ⟩ : ∃ J : Nat → Env → H → Prop, J = fun j σ'' h'' => ∃ u'', σ'' 0 = str src ∧ σ'' 1 = str more ∧ σ'' 5 = .slice a1 L.length c1 ∧ σ'' 7 = .int .i64 (k : Nat) ∧ σ'' 17 = .int .i64 (k : Nat) ∧ σ'' 8 = .pointer (some ⟨fb, 0, none⟩) ∧ σ'' 36 = .slice a1 L.length c1 ∧ σ'' 37 = .int .i64 (L.length : Nat) ∧ σ'' 38 = .int .i64 (j : Nat) ∧ j ≤ L.length ∧ Step S0 u4 h4 u'' h'' ∧ (σ'' 9 = .int .i64 (e : Nat) ∨ (σ'' 9 = .int .i64 (-1) ∧ t ∉ L.take j)) := ⟨_, rfl⟩
  refine wpS_loop J (fun j => L.length - j) 0 (by rw [hJ]; exact ⟨u4, by simp [upd, f0], by simp [upd, f1], by simp [upd, f5], by simp [upd], by simp [upd, f17], by simp [upd], by simp [upd], by simp [upd], by simp [upd], by omega, Step.refl _ _ _, .inr ⟨by simp [upd], by simp⟩⟩) ?_
  clear hh4 s4 hfb
  intro j σ'' h'' hy
  rw [hJ] at hy
  obtain ⟨u'', q0, q1, q5, q7, q17, q8, q36, q37, q38, hj, sj, q9⟩ := hy
  by_cases hjl : j < L.length
  case neg =>
    have q9 : σ'' 9 = .int .i64 (e : Nat) := by
      rcases q9 with q9 | ⟨-, q9⟩
      · exact q9
      · rw [List.take_of_length_le (by omega)] at q9; exact absurd t1 q9
    have D6 := B6'.step0 sj
    have D61 := D6.1
    have w1 : IntKind.i64.wrap ((e : Int) + 1) = ((e + 1 : Nat) : Int) := by rw [wr64 (by omega) (by omega)]; rfl
    have w2 : IntKind.i64.wrap (((e + 1 : Nat) : Int) + (more.length : Nat)) = ((e + 1 + more.length : Nat) : Int) := by rw [wr64 (by omega) (by omega)]; rfl
    by_cases hbig : 65536 < e + 1 + more.length
    · simp (disch := first | omega | (simp only [e_ssz, e_psz, e_hszs, List.length_cons, List.length_nil]; try omega; done)) only [↓reduceIte, go_sem, ParseBehind_L2, q0, q1, q17, q37, q38, q9, eq_false (show ¬ (j : Int) < (L.length : Nat) by omega), w1, w2, eq_false (show ¬ (e : Int) < 0 by omega), eq_false (show ¬ (src.length : Int) < (e : Nat) by omega), eq_true (show (65536 : Int) < ((e + 1 + more.length : Nat) : Int) by omega)]
      exact next _ u'' h'' (by simp [upd, q0]) (by simp [upd, q1]) (by simp [upd, q5]) (by simp [upd]) sj
    · simp (disch := first | omega | (simp only [e_ssz, e_psz, e_hszs, List.length_cons, List.length_nil]; try omega; done)) only [↓reduceIte, go_sem, ParseBehind_L2, q0, q1, q7, q8, q37, q38, q9, eq_false (show ¬ (j : Int) < (L.length : Nat) by omega), w1, w2, eq_false (show ¬ (e : Int) < 0 by omega), eq_false (show ¬ (src.length : Int) < (e : Nat) by omega), eq_false (show ¬ (65536 : Int) < ((e + 1 + more.length : Nat) : Int) by omega), D6.at, D6.2.1]
      have htk : (src.take e).length = e := by rw [List.length_take]; omega
      have ht7 := t7 (by rw [List.length_append, htk, List.length_cons]; omega)
      have happ : src.take e ++ [10] ++ more = src.take e ++ 10 :: more := by simp
      rw [← happ] at ht7
      have sj2 := st4.trans0 sj
      refine ⟨by omega, by omega, by omega, effS_call (.inr (.inl ⟨rfl, u'', k, src.take e ++ [10] ++ more, rfl, hlt, by simp only [List.length_append, List.length_cons, List.length_nil]; omega, hG.mono sj2.ge, fun u5 h5 s5 => ⟨?_, ?_⟩⟩))⟩
      · have D7 := D6.step0 s5
        have D71 := D7.1
        simp (disch := first | omega | (simp only [e_ssz, e_psz, e_hszs, List.length_cons, List.length_nil]; try omega; done)) only [↓reduceIte, go_sem, q8, D6.at, D7.at, D7.2.1]
      · rw [ht7]
        simp only [fltV]
        simp (disch := first | omega | (simp only [e_ssz, e_psz, e_hszs, List.length_cons, List.length_nil]; try omega; done)) only [↓reduceIte, go_sem, q17]
        exact next _ u5 h5 (by simp [upd, q0]) (by simp [upd, q1]) (by simp [upd, q5]) (by simp [upd]) (sj.trans0 s5)
  obtain ⟨x, hx⟩ : ∃ x, L[j]? = some x := ⟨L[j], by simp [hjl]⟩
  have jv := ((i2.mono st4'.ge).mono sj.ge)
  have D6 := B6'.step0 sj
  obtain ⟨pb, po, rfl, -, -, -, -⟩ := jv.row j x hx
  obtain ⟨hpb, hpz, p0, p1, p2, p3, p4, p5⟩ := tokB_at jv j hx
  obtain ⟨h5, h6, u6, hh5, hh6, B3, B4, s6, hz6⟩ := boxed u'' h'' [.int .i64 0, str [], .int .i64 0, .int .i64 0, .int .i64 0, .int .i64 0] [.int .i64 x.1, str x.2.1, .int .i64 x.2.2.1, .int .i64 x.2.2.2.1, .int .i64 x.2.2.2.2.1, .int .i64 x.2.2.2.2.2] 75 rfl
  have D66 := D6.step0 s6
  have D661 := D66.1
  have B31 := B3.1
  have B41 := B4.1
  have on : ∀ (σ9 : Env), σ9 0 = str src → σ9 1 = str more → σ9 5 = .slice (some ⟨pb, po, none⟩) L.length c1 → σ9 7 = .int .i64 (k : Nat) → σ9 17 = .int .i64 (k : Nat) → σ9 8 = .pointer (some ⟨fb, 0, none⟩) → σ9 36 = .slice (some ⟨pb, po, none⟩) L.length c1 → σ9 37 = .int .i64 (L.length : Nat) → σ9 38 = .int .i64 ((j : Int) + 1) → (σ9 9 = .int .i64 (e : Nat) ∨ (σ9 9 = .int .i64 (-1) ∧ t ∉ L.take (j + 1))) → ∃ y, J y σ9 h6 ∧ L.length - y < L.length - j := by
    intro σ9 r0 r1 r5 r7 r17 r8 r36 r37 r38 r9
    refine ⟨j + 1, ?_, by omega⟩
    rw [hJ]
    exact ⟨u6, r0, r1, r5, r7, r17, r8, r36, r37, by rw [r38]; rfl, hjl, sj.trans0 s6, r9⟩
  have htk : ∀ y, y ∈ L.take (j + 1) → y ∈ L.take j ∨ y = x := by
    intro y hy
    rw [List.take_add_one, hx] at hy
    simpa using hy
  by_cases hgo : x.2.2.2.2.1 = g2
  · have hxt : x = t := t6 x (List.mem_of_getElem? hx) hgo
    have he2 : x.2.2.2.2.2 = (e : Int) := by rw [hxt]; exact he
    have hlt2 : x.2.2.2.2.1 < (e : Int) := by rw [hxt]; exact t3
    rw [he2] at p5 B4
    rw [he2] at hh6
    simp (disch := first | omega | (simp only [e_ssz, e_psz, e_hszs, List.length_cons, List.length_nil]; try omega; done)) only [↓reduceIte, go_sem, ParseBehind_L2, q8, q36, q37, q38, eq_true (show (j : Int) < (L.length : Nat) by omega), p0, p1, p2, p3, p4, p5, ← hh5, ← hh6, B3.2.1, B3.2.2.1, B4.at, B4.2.1, D66.at, D66.2.1, eq_true hgo, eq_true hlt2]
    exact on _ (by simp [upd, q0]) (by simp [upd, q1]) (by simp [upd, q5]) (by simp [upd, q7]) (by simp [upd, q17]) (by simp [upd, q8]) (by simp [upd, q36]) (by simp [upd, q37]) (by simp [upd]) (.inl (by simp [upd]))
  · simp (disch := first | omega | (simp only [e_ssz, e_psz, e_hszs, List.length_cons, List.length_nil]; try omega; done)) only [↓reduceIte, go_sem, ParseBehind_L2, q8, q36, q37, q38, eq_true (show (j : Int) < (L.length : Nat) by omega), p0, p1, p2, p3, p4, p5, ← hh5, ← hh6, B3.2.1, B3.2.2.1, B4.at, B4.2.1, D66.at, D66.2.1, eq_false hgo]
    exact on _ (by simp [upd, q0]) (by simp [upd, q1]) (by simp [upd, q5]) (by simp [upd, q7]) (by simp [upd, q17]) (by simp [upd, q8]) (by simp [upd, q36]) (by simp [upd, q37]) (by simp [upd]) (q9.imp (fun q => by simp [upd, q]) (fun q => ⟨by simp [upd, q.1], fun hin => by
      rcases htk t hin with w | w
      · exact q.2 w
      · rw [← w] at hgo; exact hgo t2⟩))
theorem ParseBehind_hc {s m : List UInt8} {h : H} (hl : s.length ≤ 9223372036854775807) (hm : m.length ≤ 140737488351232) (hG : LxG (hsz h) h) : HCX Tryd.prog 15 [str s, str m] h (fun v h' => v = .bool true ∧ Ext0 h h') fun _ _ => False :=
  ParseBehind_ok ⟨hsz h, s, m, rfl, hl, hm, hG, fun u' h' st => ⟨rfl, st.ext⟩⟩
end Go.Proofs.YtmnfhmbmifompaaDoor
