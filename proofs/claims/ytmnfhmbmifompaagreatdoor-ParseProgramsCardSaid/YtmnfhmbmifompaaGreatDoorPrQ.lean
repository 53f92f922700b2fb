/- The document's answer, walked: literal, body, Query. -/
import Derived.Test.YtmnfhmbmifompaaGreatDoorPrFs
import Derived.Test.YtmnfhmbmifompaaGreatDoorPsB
namespace Go.Ev
open Go Rep Edict
theorem isSl_tail {α : Type} [Rep α] {u : U} {h : H} {b o c : Nat} {t : α} {l : List α} (hs : IsSl u h (.slice (some ⟨b, o, none⟩) (l.length + 1) c) (t :: l)) : IsSl u h (.slice (some ⟨b, o + Rep.sz α, none⟩) l.length (c - 1)) l := by
  obtain ⟨a', n', c', h1, h2, h3, h4, h5, h6⟩ := hs
  simp only [Value.slice.injEq] at h1
  obtain ⟨rfl, rfl, rfl⟩ := h1
  refine ⟨_, _, _, rfl, rfl, by omega, by omega, fun q => (by cases q), fun hne => ?_⟩
  obtain ⟨b', o', e, hb, hu, hz, hr⟩ := h6 (by simp)
  cases e
  have e1 : (t :: l).length * Rep.sz α = l.length * Rep.sz α + Rep.sz α := by rw [List.length_cons, Nat.succ_mul]
  refine ⟨b, o + Rep.sz α, rfl, hb, by omega, by omega, fun i x hx => ?_⟩
  have := hr (i + 1) x (by simpa using hx)
  rwa [show o + (i + 1) * Rep.sz α = o + Rep.sz α + i * Rep.sz α by rw [Nat.succ_mul]; omega] at this
theorem tok_row {u : U} {h : H} {pb po n c : Nat} {L : List Tok} (hs : IsSl u h (.slice (some ⟨pb, po, none⟩) n c) L) (i : Nat) {t : Tok} (ht : L[i]? = some t) :
    pb < h.size ∧ po + i * 6 + 6 ≤ hsz h pb ∧ hv h pb (po + i * 6) = .int .i64 t.1 ∧ hv h pb (po + i * 6 + 1) = str t.2.1 ∧ hv h pb (po + i * 6 + 2) = .int .i64 t.2.2.1 ∧ hv h pb (po + i * 6 + 3) = .int .i64 t.2.2.2.1 ∧ hv h pb (po + i * 6 + 4) = .int .i64 t.2.2.2.2.1 ∧ hv h pb (po + i * 6 + 5) = .int .i64 t.2.2.2.2.2 := by
  obtain ⟨pb', po', he, hpb, hpu, hpz, hpr⟩ := hs.row i t ht
  cases he
  rw [rep_tok] at hpr
  simp only [tokE, sz_tok, hvs_6, List.cons.injEq, and_true] at hpr hpu hpz
  obtain ⟨p0, p1, p2, p3, p4, p5⟩ := hpr
  exact ⟨hpb, hpz, p0, p1, p2, p3, p4, p5⟩
end Go.Ev
namespace Edict
theorem litF_not {t : Tok} {l : List Tok} (h : tK t = 10) : litF (t :: l) = (2, atomF l, 0, noTerm, noTerm, tO t) := by
  show (if tK t = 10 then _ else _) = _
  rw [if_pos h]
theorem litF_test {t o y : Tok} (h : tK t ≠ 10) (ho : tK o = 11) : litF [t, o, y] = (3, noAtom, tP o, termD t, termD y, tO t) := by
  show (if tK t = 10 then _ else if tK o = 11 then _ else _) = _
  rw [if_neg h, if_pos ho]
theorem litF_pos1 {t o y : Tok} (h : tK t ≠ 10) (ho : tK o ≠ 11) : litF [t, o, y] = (1, atomF [t, o, y], 0, noTerm, noTerm, tO t) := by
  show (if tK t = 10 then _ else if tK o = 11 then _ else _) = _
  rw [if_neg h, if_neg ho]
theorem litF_pos2 {t : Tok} {l : List Tok} (h : tK t ≠ 10) (hl : l.length ≠ 2) : litF (t :: l) = (1, atomF (t :: l), 0, noTerm, noTerm, tO t) := by
  show (if tK t = 10 then _ else _) = _
  rw [if_neg h]
  match l, hl with
  | [], _ => rfl
  | [_], _ => rfl
  | [_, _], q => exact absurd rfl q
  | _ :: _ :: _ :: _, _ => rfl
theorem query_check {src : List UInt8} : (∀ e, parseF queryD src = .error e → checkF 5 src = e ∧ e.1 ≠ 0) ∧ ∀ a, parseF queryD src = .ok a → checkF 5 src = (0, 0) ∧ ∃ pre, sentF (scanF src).1 = [pre] ∧ a = bodyF3 pre ∧ ∀ p ∈ cutF 7 0 [] pre, LitWf p := by
  unfold parseF checkF
  by_cases h : 65536 < src.length
  · rw [if_pos h, if_pos h]
    exact ⟨fun e q => by cases q; exact ⟨rfl, (show (1 : Int) ≠ 0 by decide)⟩, fun a q => by cases q⟩
  · rw [if_neg h, if_neg h]
    exact query_same (good_src (by omega))
end Edict
namespace Go.Proofs.YtmnfhmbmifompaaGreatDoor
open Go Go.Ev Edict
def C_rLit (vs : List Value) (h : H) (K : Value → H → Prop) : Prop := ∃ (u : U) (v : Value) (p : List Tok), vs = [v] ∧ IsSl u h v p ∧ p.length ≤ 65537 ∧ LitWf p ∧ ∀ u' h' w, Step S0 u h u' h' → IsSl u' h' w (litF p).2.1.2.1 → K (.agg (litE (litF p) w).toArray) h'
def G_rLt : Ctr := fun f vs h K _ => (f = 24 ∧ C_rAtom vs h K) ∨ (f = 37 ∧ C_rTerm vs h K)
theorem G_rLt_ok : GOk Tryz.prog G_rLt := by
  rintro f vs h K KP (⟨rfl, hC⟩ | ⟨rfl, hC⟩)
  · exact rpAtom_ok hC
  · exact rpTerm_ok hC
theorem rpLiteral_ok {vs : List Value} {h : H} {K : Value → H → Prop} {KP : List PanicEntry → H → Prop} (hC : C_rLit vs h K) : HCX Tryz.prog 34 vs h K KP := by
  obtain ⟨u, v, p, rfl, hi, hpl, ⟨t, l, rfl, hwf⟩, hK⟩ := hC
  obtain ⟨a, c, rfl, q1, q2⟩ := hi.sl
  have hlen : (t :: l).length = l.length + 1 := rfl
  simp only [hlen] at hi q1 hpl ⊢
  refine rpLiteral_H G_rLt G_rLt_ok _ ?_
  have s1 := Step.push0 S0 u h #[.int .i64 0, str [], .slice none 0 0, .int .i64 0, .int .i64 0, .int .i64 0, .int .i64 0, str [], .int .i64 0, .int .i64 0, .int .i64 0, str [], .int .i64 0, .int .i64 0] 55
  have B1 := Blk.new (u := u) (h := h) [.int .i64 0, str [], .slice none 0 0, .int .i64 0, .int .i64 0, .int .i64 0, .int .i64 0, str [], .int .i64 0, .int .i64 0, .int .i64 0, str [], .int .i64 0, .int .i64 0] 55
  obtain ⟨h1, hh1⟩ : ∃ h1, h1 = h.push (.cells #[.int .i64 0, str [], .slice none 0 0, .int .i64 0, .int .i64 0, .int .i64 0, .int .i64 0, str [], .int .i64 0, .int .i64 0, .int .i64 0, str [], .int .i64 0, .int .i64 0] 55) := ⟨_, rfl⟩
  obtain ⟨u1, hu1⟩ : ∃ u1, u1 = ub u h.size 0 := ⟨_, rfl⟩
  have B1' : Blk u1 h1 h.size [.int .i64 0, str [], .slice none 0 0, .int .i64 0, .int .i64 0, .int .i64 0, .int .i64 0, str [], .int .i64 0, .int .i64 0, .int .i64 0, str [], .int .i64 0, .int .i64 0] := by rw [hu1, hh1]; exact B1
  rw [← hh1, ← hu1] at s1
  clear B1
  have v1 := hi.mono s1.ge
  have B11 := B1'.1
  obtain ⟨pb, po, rfl, -, -, -, -⟩ := v1.row 0 t rfl
  obtain ⟨hpb, hpz, p0, p1, p2, p3, p4, p5⟩ := tok_row v1 0 rfl
  simp only [Nat.zero_mul, Nat.add_zero] at hpz p0 p1 p2 p3 p4 p5
  have fin : ∀ (k : Int) (x : List Tok) (u6 : U) (h6 : H) (w : Value), litF (t :: l) = (k, atomF x, 0, noTerm, noTerm, tO t) → Step S0 u1 h1 u6 h6 → IsSl u6 h6 w (atomF x).2.1 →
      Blk u6 (hsets h6 h.size 0 (litE (k, atomF x, 0, noTerm, noTerm, tO t) w)) h.size (litE (k, atomF x, 0, noTerm, noTerm, tO t) w) ∧ K (.agg (litE (k, atomF x, 0, noTerm, noTerm, tO t) w).toArray) (hsets h6 h.size 0 (litE (k, atomF x, 0, noTerm, noTerm, tO t) w)) := by
    intro k x u6 h6 w he s6 iw
    have B16 := B1'.step0 s6
    have s7 := (s1.trans0 s6).setsR (b := h.size) (o := 0) (l := litE (k, atomF x, 0, noTerm, noTerm, tO t) w) (.inl (Nat.le_refl _)) (by rw [B16.2.2.2.1]; exact Nat.zero_le _) (by rw [B16.2.1]; exact Nat.le_refl _)
    have s67 := Step.sets (S := fun b => b = h.size) u6 h6 (b := h.size) (o := 0) (litE (k, atomF x, 0, noTerm, noTerm, tO t) w) rfl (by rw [B16.2.2.2.1]; exact Nat.zero_le _) (by rw [B16.2.1]; exact Nat.le_refl _)
    refine ⟨B16.sets rfl, ?_⟩
    rw [he] at hK
    exact hK _ _ _ s7 (iw.mono s67.ge)
  by_cases h10 : t.1 = 10
  · obtain ⟨t2, l2, rfl⟩ : ∃ t2 l2, l = t2 :: l2 := by
      cases l with
      | nil => exact absurd rfl (hwf h10)
      | cons t2 l2 => exact ⟨t2, l2, rfl⟩
    have hcut : ∀ hh : H, v2 (.cutLo 6) (.slice (some ⟨pb, po, none⟩) ((t2 :: l2).length + 1) c) (.int .i64 1) hh = .slice (some ⟨pb, po + 6, none⟩) (t2 :: l2).length (c - 1) := fun hh => by
      have : c ≠ 1 := by simp only [List.length_cons] at q1; omega
      simp [v2, ti, Addr.add, this]
    obtain ⟨n, hn⟩ : ∃ n, n = (t2 :: l2).length := ⟨_, rfl⟩
    have hn2 : n = l2.length + 1 := hn
    have it := isSl_tail v1
    rw [sz_tok] at it
    rw [← hn] at hcut it q1 hpl ⊢
    simp (disch := first | omega | (simp only [e_ssz, e_psz, e_hszs, List.length_cons, List.length_nil]; try omega; done)) only [↓reduceIte, go_sem, rpLiteral_S, rpLiteral_E, ← hh1, eq_true (show (0 : Int) < ((n + 1 : Nat) : Int) by omega), p0, p4, eq_true h10, hcut, eq_true (show (1 : Int) ≤ ((n + 1 : Nat) : Int) by omega)]
    refine effS_call (.inl ⟨rfl, u1, _, t2, l2, rfl, it, by omega, fun u6 h6 w6 s6 o6 => ⟨by simp (disch := first | omega | (simp only [e_ssz, e_psz, e_hszs, List.length_cons, List.length_nil]; try omega; done)) only [go_sem], ?_⟩⟩)
    have B16 := B1'.step0 s6
    have B161 := B16.1
    obtain ⟨w, hK'⟩ := fin 2 (t2 :: l2) u6 h6 w6 (litF_not h10) s6 o6.isSl
    obtain ⟨wa, wc, rfl, m1, m2⟩ := o6.sl
    simp only [litE, noTerm, atomF, tO, tX] at hK' w
    simp only [tO, tX]
    simp (disch := first | omega | (simp only [e_ssz, e_psz, e_hszs, List.length_cons, List.length_nil]; try omega; done)) only [↓reduceIte, go_sem, B16.2.1, B16.2.2.1, w.at, w.2.1]
    exact hK'
  by_cases hl2 : l.length = 2
  · obtain ⟨o, y, rfl⟩ : ∃ o y, l = [o, y] := by
      match l, hl2 with
      | [o, y], _ => exact ⟨o, y, rfl⟩
    obtain ⟨-, hpz1, r0, r1, r2, r3, r4, r5⟩ := tok_row v1 1 (t := o) rfl
    simp only [Nat.one_mul, Nat.add_assoc, Nat.reduceAdd] at hpz1 r0 r1 r2 r3 r4 r5
    by_cases h11 : o.1 = 11
    · have st0 : ∀ {u' : U} {h' : H}, Step S0 u1 h1 u' h' → pb < h'.size ∧ po + 12 + 6 ≤ hsz h' pb ∧ hv h' pb (po + 9) = .int .i64 o.2.2.2.1 ∧ hv h' pb (po + 12) = .int .i64 y.1 ∧ hv h' pb (po + 13) = str y.2.1 ∧ hv h' pb (po + 14) = .int .i64 y.2.2.1 ∧ hv h' pb (po + 15) = .int .i64 y.2.2.2.1 ∧ hv h' pb (po + 16) = .int .i64 y.2.2.2.2.1 ∧ hv h' pb (po + 17) = .int .i64 y.2.2.2.2.2 := by
        intro u' h' s
        obtain ⟨a0, -, -, -, -, a4, -, -⟩ := tok_row (v1.mono s.ge) 1 (t := o) rfl
        obtain ⟨-, b1, b2, b3, b4, b5, b6, b7⟩ := tok_row (v1.mono s.ge) 2 (t := y) rfl
        exact ⟨a0, b1, a4, b2, b3, b4, b5, b6, b7⟩
      obtain ⟨-, z0, y3, y0, y1, y2, y33, y4, y5⟩ := st0 (Step.refl _ _ _)
      simp (disch := first | omega | (simp only [e_ssz, e_psz, e_hszs, List.length_cons, List.length_nil]; try omega; done)) only [↓reduceIte, go_sem, rpLiteral_S, rpLiteral_E, ← hh1, p0, p1, p2, p3, p4, p5, r0, r3, y0, y1, y2, y33, y4, y5, eq_false h10, eq_true h11]
      refine effS_call (.inr ⟨rfl, u1, t, rfl, fun u5 h5 s5 => ?_⟩)
      obtain ⟨a0, a1, a2, a3, a4, a5, a6, a7, a8⟩ := st0 s5
      refine ⟨by simp (disch := first | omega | (simp only [e_ssz, e_psz, e_hszs, List.length_cons, List.length_nil]; try omega; done)) only [↓reduceIte, go_sem, a1, a2, a3, a4, a5, a6, a7, a8, y3, y0, y1, y2, y33, y4, y5], ?_⟩
      simp (disch := first | omega | (simp only [e_ssz, e_psz, e_hszs, List.length_cons, List.length_nil]; try omega; done)) only [↓reduceIte, go_sem]
      refine effS_call (.inr ⟨rfl, u5, y, rfl, fun u6 h6 s6 => ?_⟩)
      obtain ⟨c0, c1, c2, c3, c4, c5, c6, c7, c8⟩ := st0 (s5.trans0 s6)
      refine ⟨by simp (disch := first | omega | (simp only [e_ssz, e_psz, e_hszs, List.length_cons, List.length_nil]; try omega; done)) only [↓reduceIte, go_sem, a2, c2], ?_⟩
      have B16 := (B1'.step0 s5).step0 s6
      have B161 := B16.1
      have w := B16.sets (l := litE (3, noAtom, tP o, termD t, termD y, tO t) (.slice none 0 0)) rfl
      have s7 := ((s1.trans0 s5).trans0 s6).setsR (b := h.size) (o := 0) (l := litE (3, noAtom, tP o, termD t, termD y, tO t) (.slice none 0 0)) (.inl (Nat.le_refl _)) (by rw [B16.2.2.2.1]; exact Nat.zero_le _) (by rw [B16.2.1]; exact Nat.le_refl _)
      rw [litF_test h10 h11] at hK
      have hK' := hK _ _ (.slice none 0 0) s7 (.nil _ _)
      simp only [litE, noAtom, tO, tP] at hK' w
      simp only [termE]
      simp (disch := first | omega | (simp only [e_ssz, e_psz, e_hszs, List.length_cons, List.length_nil]; try omega; done)) only [↓reduceIte, go_sem, B16.2.1, B16.2.2.1, w.at, w.2.1]
      exact hK'
    · simp (disch := first | omega | (simp only [e_ssz, e_psz, e_hszs, List.length_cons, List.length_nil]; try omega; done)) only [↓reduceIte, go_sem, rpLiteral_S, rpLiteral_E, ← hh1, p0, p4, r0, eq_false h10, eq_false h11]
      refine effS_call (.inl ⟨rfl, u1, _, t, [o, y], rfl, v1, by simp, fun u6 h6 w6 s6 o6 => ⟨by simp (disch := first | omega | (simp only [e_ssz, e_psz, e_hszs, List.length_cons, List.length_nil]; try omega; done)) only [go_sem], ?_⟩⟩)
      have B16 := B1'.step0 s6
      have B161 := B16.1
      obtain ⟨w, hK'⟩ := fin 1 [t, o, y] u6 h6 w6 (litF_pos1 h10 h11) s6 o6.isSl
      obtain ⟨wa, wc, rfl, m1, m2⟩ := o6.sl
      simp only [litE, noTerm, atomF, tO, tX] at hK' w
      simp only [tO, tX]
      simp (disch := first | omega | (simp only [e_ssz, e_psz, e_hszs, List.length_cons, List.length_nil]; try omega; done)) only [↓reduceIte, go_sem, B16.2.1, B16.2.2.1, w.at, w.2.1]
      exact hK'
  · obtain ⟨n, hn⟩ : ∃ n, n = l.length := ⟨_, rfl⟩
    have v1' := v1
    rw [← hn] at v1 hl2 hpl q1 ⊢
    simp (disch := first | omega | (simp only [e_ssz, e_psz, e_hszs, List.length_cons, List.length_nil]; try omega; done)) only [↓reduceIte, go_sem, rpLiteral_S, rpLiteral_E, ← hh1, eq_true (show (0 : Int) < ((n + 1 : Nat) : Int) by omega), p0, p4, eq_false h10, eq_false (show ¬ ((n + 1 : Nat) : Int) = 3 by omega)]
    refine effS_call (.inl ⟨rfl, u1, _, t, l, rfl, v1, by omega, fun u6 h6 w6 s6 o6 => ⟨by simp (disch := first | omega | (simp only [e_ssz, e_psz, e_hszs, List.length_cons, List.length_nil]; try omega; done)) only [go_sem], ?_⟩⟩)
    have B16 := B1'.step0 s6
    have B161 := B16.1
    obtain ⟨w, hK'⟩ := fin 1 (t :: l) u6 h6 w6 (litF_pos2 h10 (by rw [← hn]; exact hl2)) s6 o6.isSl
    obtain ⟨wa, wc, rfl, m1, m2⟩ := o6.sl
    simp only [litE, noTerm, atomF, tO, tX] at hK' w
    simp only [tO, tX]
    simp (disch := first | omega | (simp only [e_ssz, e_psz, e_hszs, List.length_cons, List.length_nil]; try omega; done)) only [↓reduceIte, go_sem, B16.2.1, B16.2.2.1, w.at, w.2.1]
    exact hK'
def C_rBody (vs : List Value) (h : H) (K : Value → H → Prop) : Prop := ∃ (u : U) (v : Value) (L : List Tok), vs = [v] ∧ IsSl u h v L ∧ L.length ≤ 65537 ∧ (∀ p ∈ cutF 7 0 [] L, LitWf p) ∧ ∀ u' h' w, Step S0 u h u' h' → Own h.size u' h' w (bodyF3 L) → K w h'
def G_rBd : Ctr := fun f vs h K _ => (f = 23 ∧ C_rCut vs h K) ∨ (f = 34 ∧ C_rLit vs h K)
theorem G_rBd_ok : GOk Tryz.prog G_rBd := by
  rintro f vs h K KP (⟨rfl, hC⟩ | ⟨rfl, hC⟩)
  · exact rpCut_ok hC
  · exact rpLiteral_ok hC
theorem rpBody_ok {vs : List Value} {h : H} {K : Value → H → Prop} {KP : List PanicEntry → H → Prop} (hC : C_rBody vs h K) : HCX Tryz.prog 16 vs h K KP := by
  obtain ⟨u, v, L, rfl, hi, hLl, hwf, hK⟩ := hC
  refine rpBody_H G_rBd G_rBd_ok _ ?_
  simp (disch := first | omega | (simp only [e_ssz, e_psz, e_hszs, List.length_cons, List.length_nil]; try omega; done)) only [↓reduceIte, go_sem, rpBody_S, rpBody_E]
  refine effS_call (.inl ⟨rfl, u, v, L, 7, rfl, hi, hLl, fun u7 h7 w7 s7 o7 => ⟨by simp (disch := first | omega | (simp only [e_ssz, e_psz, e_hszs, List.length_cons, List.length_nil]; try omega; done)) only [go_sem], ?_⟩⟩)
  obtain ⟨Z, hZ⟩ : ∃ Z, Z = cutF 7 0 [] L := ⟨_, rfl⟩
  have hZe : ∀ s ∈ Z, s.length ≤ 65537 := fun s hs => by rw [hZ] at hs; have := cutF_each 7 L 0 [] s hs; simp only [List.length_nil] at this; omega
  have hZl : Z.length ≤ 65538 := by have := cutF_len 7 L 0 []; rw [← hZ] at this; omega
  have hb : bodyF3 L = Z.map litF := by unfold bodyF3; rw [hZ]
  rw [hb] at hK
  rw [← hZ] at o7 hwf
  have i7 := o7.isSl
  obtain ⟨wa, wc, rfl, n1, n2⟩ := o7.sl
  clear o7
  simp (disch := first | omega | (simp only [e_ssz, e_psz, e_hszs, List.length_cons, List.length_nil]; try omega; done)) only [↓reduceIte, go_sem]
  obtain ⟨I, hI⟩ : ∃ I : Nat → Env → H → Prop, I = fun k σ h' => ∃ (u' : U) (wv : Value), σ 3 = wv ∧ σ 7 = .slice wa Z.length wc ∧ σ 8 = .int .i64 (Z.length : Nat) ∧ σ 9 = .int .i64 k ∧ k ≤ Z.length ∧ Step S0 u h u' h' ∧ Own h.size u' h' wv ((Z.take k).map litF) ∧ IsSl u' h' (.slice wa Z.length wc) Z := ⟨_, rfl⟩
  refine wpS_loop I (fun j => Z.length - j) 0 (by rw [hI]; exact ⟨u7, _, by simp [upd], by simp [upd], by simp [upd], by simp [upd], by omega, s7, .nil _ _ _, i7⟩) ?_
  clear i7 s7
  intro k σ h' hy
  rw [hI] at hy
  obtain ⟨u', wv, e3, e7, e8, e9, hk', st, ow, iw⟩ := hy
  obtain ⟨va, vc, rfl, n1, n2⟩ := ow.sl
  have hz := st.ge.sz
  by_cases hlt : k < Z.length
  case neg =>
    rw [List.take_of_length_le (by omega)] at ow e3
    have hK' := hK _ _ _ st ow
    simp (disch := first | omega | (simp only [e_ssz, e_psz, e_hszs, List.length_cons, List.length_nil]; try omega; done)) only [↓reduceIte, go_sem, rpBody_L1, e3, e8, e9, eq_false (show ¬ (k : Int) < (Z.length : Nat) by omega)]
    exact hK'
  obtain ⟨x, hx⟩ : ∃ x, Z[k]? = some x := ⟨Z[k], by simp [hlt]⟩
  have hxm := List.mem_of_getElem? hx
  have hxl := hZe _ hxm
  obtain ⟨pb, po, rfl, hpb, hpu, hpz, hpr⟩ := iw.row k _ hx
  rw [rep_list] at hpr
  obtain ⟨wx, hwx, ix⟩ := hpr
  have hszl : Rep.sz (List Tok) = 1 := rfl
  obtain ⟨xa, xc, rfl, -, -⟩ := ix.sl
  simp only [hszl, hvs_1, List.cons.injEq, and_true] at hwx hpu hpz
  simp (disch := first | omega | (simp only [e_ssz, e_psz, e_hszs, List.length_cons, List.length_nil]; try omega; done)) only [↓reduceIte, go_sem, rpBody_L1, e7, e8, e9, eq_true (show (k : Int) < (Z.length : Nat) by omega), hwx]
  refine effS_call (.inr ⟨rfl, u', _, x, rfl, ix, hxl, hwf _ hxm, fun u4 h4 w4 s4 i4 => ⟨by simp (disch := first | omega | (simp only [e_ssz, e_psz, e_hszs, List.length_cons, List.length_nil]; try omega; done)) only [go_sem], ?_⟩⟩)
  obtain ⟨w4a, w4c, rfl, k1, k2⟩ := i4.sl
  have ow4 := ow.step0 s4
  have iw4 := iw.mono s4.ge
  have st4 := st.trans0 s4
  have hkl : ((Z.take k).map litF).length = k := by simp; omega
  have hsn : (Z.take (k + 1)).map litF = (Z.take k).map litF ++ [litF x] := by
    rw [List.take_add_one, hx]; simp
  obtain ⟨y, hy⟩ : ∃ y, y = litF x := ⟨_, rfl⟩
  rw [← hy] at i4 hsn ⊢
  have hrep : Rep.rep u4 h4 y (litE y (.slice w4a y.2.1.2.1.length w4c)) := by rw [rep_lit]; exact ⟨_, rfl, i4⟩
  simp only [litE] at hrep ⊢
  simp (disch := first | omega | (simp only [e_ssz, e_psz, e_hszs, List.length_cons, List.length_nil]; try omega; done)) only [↓reduceIte, go_sem, e3]
  refine effS_app1q (by simp only []) ow4 (x := y) hrep rfl rfl (by have := s4.ge.sz; omega) (by omega) fun a5 n5 c5 u5 h5 o5 s5 hO5 => ⟨by simp (disch := first | omega | (simp only [e_ssz, e_psz, e_hszs, List.length_cons, List.length_nil]; try omega; done)) only [go_sem], ?_⟩
  rw [← hsn] at o5
  have st5 := st4.trans s5 (fun b hb q => by have := ow4.ge q; omega)
  simp (disch := first | omega | (simp only [e_ssz, e_psz, e_hszs, List.length_cons, List.length_nil]; try omega; done)) only [↓reduceIte, go_sem, e9]
  refine ⟨k + 1, ?_, by omega⟩
  rw [hI]
  refine ⟨u5, _, ?_, ?_, ?_, ?_, hlt, st5, o5, iw4.mono s5.ge⟩ <;> simp [upd, e7, e8]
def C_rQuery (vs : List Value) (h : H) (K : Value → H → Prop) : Prop := ∃ (u : U) (src : List UInt8), vs = [str src] ∧ src.length ≤ 9223372036854775807 ∧
  (∀ e, parseF queryD src = .error e → ∀ u' h', Step S0 u h u' h' → K (.tuple #[.slice none 0 0, fltV e]) h') ∧
  (∀ l, parseF queryD src = .ok l → ∀ u' h' w, Step S0 u h u' h' → Own h.size u' h' w l → K (.tuple #[w, fltV (0, 0)]) h')
def G_rQy : Ctr := fun f vs h K _ => (f = 15 ∧ C_rCheck vs h K) ∨ (f = 17 ∧ C_rSent vs h K) ∨ (f = 16 ∧ C_rBody vs h K)
theorem G_rQy_ok : GOk Tryz.prog G_rQy := by
  rintro f vs h K KP (⟨rfl, hC⟩ | ⟨rfl, hC⟩ | ⟨rfl, hC⟩)
  · exact rpCheck_ok hC
  · exact rpSentences_ok hC
  · exact rpBody_ok hC
theorem rpQuery_ok {vs : List Value} {h : H} {K : Value → H → Prop} {KP : List PanicEntry → H → Prop} (hC : C_rQuery vs h K) : HCX Tryz.prog 6 vs h K KP := by
  obtain ⟨u, src, rfl, hl, hKE, hKO⟩ := hC
  refine rpQuery_H G_rQy G_rQy_ok _ ?_
  have s1 := Step.push0 S0 u h #[.int .i64 0, .int .i64 0, .int .i64 0] 25
  have B1 := Blk.new (u := u) (h := h) [.int .i64 0, .int .i64 0, .int .i64 0] 25
  obtain ⟨h1, hh1⟩ : ∃ h1, h1 = h.push (.cells #[.int .i64 0, .int .i64 0, .int .i64 0] 25) := ⟨_, rfl⟩
  obtain ⟨u1, hu1⟩ : ∃ u1, u1 = ub u h.size 0 := ⟨_, rfl⟩
  have B1' : Blk u1 h1 h.size [.int .i64 0, .int .i64 0, .int .i64 0] := by rw [hu1, hh1]; exact B1
  rw [← hh1, ← hu1] at s1
  clear B1
  have z1 : h1.size = h.size + 1 := by rw [hh1]; simp
  obtain ⟨hcE, hcO⟩ := query_check (src := src)
  simp (disch := first | omega | (simp only [e_ssz, e_psz, e_hszs, List.length_cons, List.length_nil]; try omega; done)) only [↓reduceIte, go_sem, rpQuery_S, rpQuery_E, ← hh1]
  refine effS_call (.inl ⟨rfl, u1, src, 5, rfl, hl, by omega, fun hne u3 h3 s3 => ⟨by simp (disch := first | omega | (simp only [e_ssz, e_psz, e_hszs, List.length_cons, List.length_nil]; try omega; done)) only [go_sem], ?_⟩, fun heq u3 h3 w s3 ow => ⟨by simp (disch := first | omega | (simp only [e_ssz, e_psz, e_hszs, List.length_cons, List.length_nil]; try omega; done)) only [go_sem], ?_⟩⟩)
  · cases hp : parseF queryD src with
    | ok a => exact absurd (by rw [(hcO a hp).1]) hne
    | error f =>
      rw [(hcE f hp).1] at hne ⊢
      obtain ⟨h5, h6, u6, hh5, hh6, B5, A5, s6, hz6⟩ := boxed u3 h3 [.int .i64 0, .int .i64 0, .int .i64 0] [.int .i64 f.1, .int .i64 0, .int .i64 f.2] 25 rfl
      have A1' := (B1'.step0 s3).step0 s6
      have st := (s1.trans0 s3).trans0 s6
      have hz3 := s3.ge.sz
      have B51 := B5.1
      have A51 := A5.1
      have A11 := A1'.1
      have w1 := A1'.sets (l := [.int .i64 f.1, .int .i64 0, .int .i64 f.2]) rfl
      have s7 := Step.sets (S := fun b => b = h.size) u6 h6 (b := h.size) (o := 0) [.int .i64 f.1, .int .i64 0, .int .i64 f.2] rfl (by rw [A1'.2.2.2.1]; exact Nat.zero_le _) (by rw [A1'.2.1]; exact Nat.le_refl _)
      have hK' := hKE f hp _ _ (st.trans s7 (fun b hb q => by omega))
      simp only [fltV] at hK' ⊢
      simp (disch := first | omega | (simp only [e_ssz, e_psz, e_hszs, List.length_cons, List.length_nil]; try omega; done)) only [↓reduceIte, go_sem, ← hh5, ← hh6, B5.2.1, B5.2.2.1, A5.at, A5.2.1, eq_false hne, A1'.2.1, A1'.2.2.1, w1.at, w1.2.1]
      exact hK'
  · cases hp : parseF queryD src with
    | error f => exact absurd (by rw [← (hcE f hp).1]; exact heq) (hcE f hp).2
    | ok a =>
    obtain ⟨-, pre, hpre, ha, hwf⟩ := hcO a hp
    have hK := hKO a hp
    have hLl := scanF_len src
    obtain ⟨L, hL⟩ : ∃ L, L = (scanF src).1 := ⟨_, rfl⟩
    rw [← hL] at ow hpre hLl
    have hpl := sentF_each (l := L) (s := pre) (by rw [hpre]; exact List.mem_singleton.2 rfl)
    obtain ⟨h5, h6, u6, hh5, hh6, B5, A5, s6, hz6⟩ := boxed u3 h3 [.int .i64 0, .int .i64 0, .int .i64 0] [.int .i64 0, .int .i64 0, .int .i64 0] 25 rfl
    have A1' := (B1'.step0 s3).step0 s6
    have st6 := (s1.trans0 s3).trans0 s6
    have ow6 := ow.step0 s6
    have hz3 := s3.ge.sz
    have B51 := B5.1
    have A51 := A5.1
    obtain ⟨wa0, wc0, rfl, m1, m2⟩ := ow.sl
    simp only [fltV]
    simp (disch := first | omega | (simp only [e_ssz, e_psz, e_hszs, List.length_cons, List.length_nil]; try omega; done)) only [↓reduceIte, go_sem, ← hh5, ← hh6, B5.2.1, B5.2.2.1, A5.at, A5.2.1]
    refine effS_call (.inr (.inl ⟨rfl, u6, _, L, rfl, ow6.isSl, hLl, fun u7 h7 w7 s7 i7 => ⟨by simp (disch := first | omega | (simp only [e_ssz, e_psz, e_hszs, List.length_cons, List.length_nil]; try omega; done)) only [go_sem], ?_⟩⟩))
    rw [hpre] at i7
    obtain ⟨wa, wc, rfl, n1, n2⟩ := i7.sl
    have A7 := A1'.step0 s7
    have st7 := st6.trans0 s7
    obtain ⟨pb, po, rfl, hpb, hpu, hpz, hpr⟩ := i7.row 0 pre rfl
    rw [rep_list] at hpr
    obtain ⟨wx, hwx, ix⟩ := hpr
    have hszl : Rep.sz (List Tok) = 1 := rfl
    obtain ⟨xa, xc, rfl, -, -⟩ := ix.sl
    simp only [hszl, hvs_1, List.cons.injEq, and_true, Nat.zero_mul, Nat.add_zero] at hwx hpu hpz
    simp (disch := first | omega | (simp only [e_ssz, e_psz, e_hszs, List.length_cons, List.length_nil]; try omega; done)) only [↓reduceIte, go_sem, hwx, List.length_cons, List.length_nil]
    refine effS_call (.inr (.inr ⟨rfl, u7, _, pre, rfl, ix, by omega, hwf, fun u8 h8 w8 s8 o8 => ⟨by simp (disch := first | omega | (simp only [e_ssz, e_psz, e_hszs, List.length_cons, List.length_nil]; try omega; done)) only [go_sem], ?_⟩⟩))
    rw [← ha] at o8
    have A8 := A7.step0 s8
    have A81 := A8.1
    have w1 := A8.sets (l := [.int .i64 0, .int .i64 0, .int .i64 0]) rfl
    have s9 := Step.sets (S := fun b => b = h.size) u8 h8 (b := h.size) (o := 0) [.int .i64 0, .int .i64 0, .int .i64 0] rfl (by rw [A8.2.2.2.1]; exact Nat.zero_le _) (by rw [A8.2.1]; exact Nat.le_refl _)
    have hz7 := s7.ge.sz
    have hK' := hK _ _ _ ((st7.trans0 s8).trans s9 (fun b hb q => by omega)) ((o8.step s9 (fun b q q' => by have := o8.ge q; omega)).mono (by omega))
    simp only [fltV] at hK'
    obtain ⟨ya, yc, rfl, -, -⟩ := o8.sl
    simp (disch := first | omega | (simp only [e_ssz, e_psz, e_hszs, List.length_cons, List.length_nil]; try omega; done)) only [↓reduceIte, go_sem, A8.2.1, A8.2.2.1, w1.at, w1.2.1]
    exact hK'
end Go.Proofs.YtmnfhmbmifompaaGreatDoor
