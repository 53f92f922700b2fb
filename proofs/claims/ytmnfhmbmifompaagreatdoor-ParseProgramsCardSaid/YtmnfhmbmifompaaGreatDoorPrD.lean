/- The document's answer, walked: atom. -/
import Derived.Test.YtmnfhmbmifompaaGreatDoorPrC
namespace Go.Proofs.YtmnfhmbmifompaaGreatDoor
open Go Go.Ev Edict
def C_rAtom (vs : List Value) (h : H) (K : Value → H → Prop) : Prop := ∃ (u : U) (v : Value) (t : Tok) (l : List Tok), vs = [v] ∧ IsSl u h v (t :: l) ∧ l.length ≤ 65537 ∧ ∀ u' h' w, Step S0 u h u' h' → Own h.size u' h' w (argsOf l) → K (.agg #[str (tX t), w, .int .i64 (tO t)]) h'
def G_rAt : Ctr := fun f vs h K _ => (f = 36 ∧ C_rIsT vs h K) ∨ (f = 37 ∧ C_rTerm vs h K)
theorem G_rAt_ok : GOk Tryz.prog G_rAt := by
  rintro f vs h K KP (⟨rfl, hC⟩ | ⟨rfl, hC⟩)
  · exact rpIsTerm_ok hC
  · exact rpTerm_ok hC
theorem argsOf_snoc (l : List Tok) (t : Tok) : argsOf (l ++ [t]) = argsOf l ++ (if isT (tK t) true = true then [termD t] else []) := by
  unfold argsOf
  rw [List.filter_append, List.map_append]
  by_cases h : isT (tK t) true = true
  · simp [h]
  · simp [h]
theorem argsOf_len (l : List Tok) : (argsOf l).length ≤ l.length := by unfold argsOf; rw [List.length_map]; exact List.length_filter_le _ _
theorem rpAtom_ok {vs : List Value} {h : H} {K : Value → H → Prop} {KP : List PanicEntry → H → Prop} (hC : C_rAtom vs h K) : HCX Tryz.prog 24 vs h K KP := by
  obtain ⟨u, v, t, l, rfl, hi, hll, hK⟩ := hC
  obtain ⟨a, c, rfl, q1, q2⟩ := hi.sl
  have hlen : (t :: l).length = l.length + 1 := rfl
  simp only [hlen] at hi q1 ⊢
  refine rpAtom_H G_rAt G_rAt_ok _ ?_
  have s1 := Step.push0 S0 u h #[str [], .slice none 0 0, .int .i64 0] 51
  have B1 := Blk.new (u := u) (h := h) [str [], .slice none 0 0, .int .i64 0] 51
  obtain ⟨h1, hh1⟩ : ∃ h1, h1 = h.push (.cells #[str [], .slice none 0 0, .int .i64 0] 51) := ⟨_, rfl⟩
  obtain ⟨u1, hu1⟩ : ∃ u1, u1 = ub u h.size 0 := ⟨_, rfl⟩
  have B1' : Blk u1 h1 h.size [str [], .slice none 0 0, .int .i64 0] := by rw [hu1, hh1]; exact B1
  rw [← hh1, ← hu1] at s1
  clear B1
  have v1 := hi.mono s1.ge
  obtain ⟨pb, po, rfl, hpb, hpu, hpz, hpr⟩ := v1.row 0 t rfl
  rw [rep_tok] at hpr
  simp only [tokE, sz_tok, hvs_6, List.cons.injEq, and_true, Nat.zero_mul, Nat.add_zero] at hpr hpu hpz
  obtain ⟨p0, p1, p2, p3, p4, p5⟩ := hpr
  obtain ⟨h3, h4, u4, hh3, hh4, B3, B4, s4, hz4⟩ := boxed u1 h1 [str [], .slice none 0 0, .int .i64 0] [str t.2.1, .slice none 0 0, .int .i64 t.2.2.2.2.1] 51 rfl
  have B14 := B1'.step0 s4
  have v4 := v1.mono s4.ge
  have st4 := s1.trans0 s4
  have hb1 := B1'.1
  have B31 := B3.1
  have B41 := B4.1
  have hpu3 : hv h3 pb (po + 1) = str t.2.1 ∧ hv h3 pb (po + 4) = .int .i64 t.2.2.2.2.1 ∧ po + 6 ≤ hsz h3 pb := by
    rw [hh3]
    exact ⟨by rw [e_hvp hpb, p1], by rw [e_hvp hpb, p4], by rw [e_hszp hpb]; exact hpz⟩
  obtain ⟨g1, g4, gz⟩ := hpu3
  obtain ⟨ta, hta⟩ : ∃ ta : Option Addr, ta = (if c = 1 then some ⟨pb, po, none⟩ else some ⟨pb, po + 6, none⟩) := ⟨_, rfl⟩
  have hta2 : 0 < l.length → ta = some ⟨pb, po + 6, none⟩ := fun q => by rw [hta, if_neg (by omega)]
  have hcut : ∀ hh : H, v2 (.cutLo 6) (.slice (some ⟨pb, po, none⟩) (l.length + 1) c) (.int .i64 1) hh = .slice ta l.length (c - 1) := fun hh => by rw [hta]; simp [v2, ti, Addr.add]
  simp (disch := first | omega | (simp only [e_ssz, e_psz, e_hszs, List.length_cons, List.length_nil]; try omega; done)) only [↓reduceIte, go_sem, rpAtom_S, rpAtom_E, ← hh1, eq_true (show (0 : Int) < ((l.length + 1 : Nat) : Int) by omega), p1, p4, ← hh3, ← hh4, g1, g4, B3.2.1, B3.2.2.1, hcut, eq_true (show (1 : Int) ≤ ((l.length + 1 : Nat) : Int) by omega)]
  obtain ⟨b3, hb3⟩ : ∃ b3, b3 = h1.size := ⟨_, rfl⟩
  have hb3s : h.size < b3 := by omega
  rw [← hb3] at B4 ⊢
  obtain ⟨I, hI⟩ : ∃ I : Nat → Env → H → Prop, I = fun k σ h' => ∃ (u' : U) (w : Value), σ 2 = .pointer (some ⟨h.size, 0, none⟩) ∧ σ 3 = .pointer (some ⟨b3, 0, none⟩) ∧ σ 16 = .slice ta l.length (c - 1) ∧ σ 17 = .int .i64 (l.length : Nat) ∧ σ 18 = .int .i64 k ∧ k ≤ l.length ∧ Step S0 u h u' h' ∧ Blk u' h' h.size [str [], .slice none 0 0, .int .i64 0] ∧ Blk u' h' b3 [str t.2.1, w, .int .i64 t.2.2.2.2.1] ∧ Own h.size u' h' w (argsOf (l.take k)) ∧ (∀ b, OwnB w b → b ≠ h.size ∧ b ≠ b3) ∧ IsSl u' h' (.slice (some ⟨pb, po, none⟩) (l.length + 1) c) (t :: l) := ⟨_, rfl⟩
  refine wpS_loop I (fun j => l.length - j) 0 (by rw [hI]; exact ⟨u4, _, by simp [upd], by simp [upd], by simp [upd], by simp [upd], by simp [upd], by omega, st4, B14, B4, .nil _ _ _, fun b ⟨_, _, _, q⟩ => (by cases q), v4⟩) ?_
  clear hh1 hh3 hh4 B3 B31 B41 B4 B14 v4 st4 g1 g4 gz p0 p1 p2 p3 p4 p5 v1 hcut hb1 B1' s4 hz4
  intro k σ h' hy
  rw [hI] at hy
  obtain ⟨u', w, e2, e3, e16, e17, e18, hk', st, A, B, ow, hwb, iw⟩ := hy
  obtain ⟨va, vc, rfl, n1, n2⟩ := ow.sl
  have hA1 := A.1
  have hB1 := B.1
  have hz := st.ge.sz
  have hal := argsOf_len (l.take k)
  rw [List.length_take] at hal
  by_cases hlt : k < l.length
  case neg =>
    rw [List.take_of_length_le (by omega)] at ow B hwb
    have w1 := A.sets (l := [str t.2.1, .slice va (argsOf l).length vc, .int .i64 t.2.2.2.2.1]) rfl
    have s7 := st.setsR (b := h.size) (o := 0) (l := [str t.2.1, .slice va (argsOf l).length vc, .int .i64 t.2.2.2.2.1]) (.inl (Nat.le_refl _)) (by rw [A.2.2.2.1]; exact Nat.zero_le _) (by rw [A.2.1]; exact Nat.le_refl _)
    have s67 := Step.sets (S := fun b => b = h.size) u' h' (b := h.size) (o := 0) [str t.2.1, .slice va (argsOf l).length vc, .int .i64 t.2.2.2.2.1] rfl (by rw [A.2.2.2.1]; exact Nat.zero_le _) (by rw [A.2.1]; exact Nat.le_refl _)
    have hK' := hK _ _ _ s7 (ow.step s67 (fun b q q' => (hwb b q).1 q'))
    simp (disch := first | omega | (simp only [e_ssz, e_psz, e_hszs, List.length_cons, List.length_nil]; try omega; done)) only [↓reduceIte, go_sem, rpAtom_L1, e2, e3, e17, e18, eq_false (show ¬ (k : Int) < (l.length : Nat) by omega), B.at, B.2.1, A.2.1, A.2.2.1, w1.at, w1.2.1]
    exact hK'
  obtain ⟨x, hx⟩ : ∃ x, l[k]? = some x := ⟨l[k], by simp [hlt]⟩
  have hta' := hta2 (by omega)
  rw [hta'] at e16
  obtain ⟨pb', po', hq, hpb, hpu, hpz, hpr⟩ := iw.row (k + 1) x (by simpa using hx)
  cases hq
  rw [show po + (k + 1) * Rep.sz Tok = po + 6 + k * 6 by rw [sz_tok]; omega] at hpu hpz hpr
  rw [rep_tok] at hpr
  simp only [tokE, sz_tok, hvs_6, List.cons.injEq, and_true] at hpr hpu hpz
  obtain ⟨p0, p1, p2, p3, p4, p5⟩ := hpr
  obtain ⟨h5, h6, u6, hh5, hh6, B5, B6, s6, hz6⟩ := boxed u' h' [.int .i64 0, str [], .int .i64 0, .int .i64 0, .int .i64 0, .int .i64 0] (tokE x) 40 rfl
  simp only [tokE] at hh6 B6
  have A6 := A.step0 s6
  have Bb6 := B.step0 s6
  have ow6 := ow.step0 s6
  have iw6 := iw.mono s6.ge
  have st6 := st.trans0 s6
  have B51 := B5.1
  have B61 := B6.1
  have hBb6 := Bb6.1
  have htk : l.take (k + 1) = l.take k ++ [x] := by rw [List.take_add_one, hx]; rfl
  simp (disch := first | omega | (simp only [e_ssz, e_psz, e_hszs, List.length_cons, List.length_nil]; try omega; done)) only [↓reduceIte, go_sem, rpAtom_L1, e16, e17, e18, eq_true (show (k : Int) < (l.length : Nat) by omega), p0, p1, p2, p3, p4, p5, ← hh5, ← hh6, B5.2.1, B5.2.2.1, B6.at, B6.2.1]
  refine effS_call (.inl ⟨rfl, x.1, rfl, ⟨by simp (disch := first | omega | (simp only [e_ssz, e_psz, e_hszs, List.length_cons, List.length_nil]; try omega; done)) only [go_sem], ?_⟩⟩)
  cases hT : isT x.1 true with
  | false =>
    simp (disch := first | omega | (simp only [e_ssz, e_psz, e_hszs, List.length_cons, List.length_nil]; try omega; done)) only [↓reduceIte, go_sem, e18]
    refine ⟨k + 1, ?_, by omega⟩
    rw [hI]
    have hs : argsOf (l.take (k + 1)) = argsOf (l.take k) := by rw [htk, argsOf_snoc, if_neg (by rw [show tK x = x.1 from rfl, hT]; simp), List.append_nil]
    rw [← hs] at ow6 Bb6 hwb
    refine ⟨u6, _, ?_, ?_, ?_, ?_, ?_, hlt, st6, A6, Bb6, ow6, hwb, iw6⟩ <;> simp [upd, e2, e3, e16, e17, hta']
  | true =>
    have hs : argsOf (l.take (k + 1)) = argsOf (l.take k) ++ [termD x] := by rw [htk, argsOf_snoc, if_pos (show isT (tK x) true = true from hT)]
    simp (disch := first | omega | (simp only [e_ssz, e_psz, e_hszs, List.length_cons, List.length_nil]; try omega; done)) only [↓reduceIte, go_sem, e3, Bb6.at, Bb6.2.1, B6.at, B6.2.1]
    refine effS_call (.inr ⟨rfl, u6, x, rfl, fun u7 h7 s7 => ?_⟩)
    have A7 := A6.step0 s7
    have B7 := Bb6.step0 s7
    have ow7 := ow6.step0 s7
    have iw7 := iw6.mono s7.ge
    have st7 := st6.trans0 s7
    have hB7 := B7.1
    refine ⟨by simp (disch := first | omega | (simp only [e_ssz, e_psz, e_hszs, List.length_cons, List.length_nil]; try omega; done)) only [↓reduceIte, go_sem, e3, Bb6.at, B7.at, B7.2.1], ?_⟩
    obtain ⟨y, hy⟩ : ∃ y, y = termD x := ⟨_, rfl⟩
    rw [← hy] at hs ⊢
    obtain ⟨ac, hac⟩ : ∃ ac, ac = argsOf (l.take k) := ⟨_, rfl⟩
    rw [← hac] at hs ow7 B7 hwb hal ⊢
    simp only [termE]
    simp (disch := first | omega | (simp only [e_ssz, e_psz, e_hszs, List.length_cons, List.length_nil]; try omega; done)) only [↓reduceIte, go_sem, e3, B7.at, B7.2.1]
    refine effS_app1q (by simp only []) ow7 (x := y) (by rw [rep_term]; rfl) rfl rfl (by have := st7.ge.sz; omega) (by omega) fun a8 n8 c8 u8 h8 o8 s8 hO8 => ⟨by simp (disch := first | omega | (simp only [e_ssz, e_psz, e_hszs, List.length_cons, List.length_nil]; try omega; done)) only [go_sem], ?_⟩
    obtain ⟨_, _, hme, m81, m82⟩ := o8.sl
    simp only [Value.slice.injEq] at hme
    obtain ⟨rfl, rfl, rfl⟩ := hme
    rw [← hs] at o8 hO8 m81 ⊢
    obtain ⟨nl, hnl⟩ : ∃ nl, nl = (argsOf (l.take (k + 1))).length := ⟨_, rfl⟩
    rw [← hnl] at o8 hO8 ⊢
    have A8 := A7.step s8 (fun q => (hwb _ q).1 rfl)
    have B8 := B7.step s8 (fun q => (hwb _ q).2 rfl)
    have hB8 := B8.1
    have hn8 : ∀ b, OwnB (.slice a8 nl c8) b → b ≠ h.size ∧ b ≠ b3 := fun b q => (hO8 b q).elim (hwb b) (fun z => by omega)
    have B9 := B8.set (i := 1) (v := .slice a8 nl c8) (by simp)
    have s9 := Step.set (S := fun b => b = b3) u8 h8 (b := b3) (o := 1) (.slice a8 nl c8) rfl (by rw [B8.2.2.2.1]; exact Nat.zero_le _)
    obtain ⟨h9, hh9⟩ : ∃ h9, h9 = hset h8 b3 1 (.slice a8 nl c8) := ⟨_, rfl⟩
    rw [← hh9] at B9 s9
    simp only [List.set_cons_succ, List.set_cons_zero] at B9
    have o9 := o8.step s9 (fun b q q' => (hn8 b q).2 q')
    have A9 := A8.step s9 (by omega)
    have st9 := (st7.trans s8 (fun b hb q => by have := ow7.ge q; omega)).trans s9 (fun b hb q => by omega)
    have iw9 := (iw7.mono s8.ge).mono s9.ge
    simp (disch := first | omega | (simp only [e_ssz, e_psz, e_hszs, List.length_cons, List.length_nil]; try omega; done)) only [↓reduceIte, go_sem, e3, e18, B8.2.1, B8.2.2.1, ← hh9]
    refine ⟨k + 1, ?_, by omega⟩
    rw [hI]
    refine ⟨u8, _, ?_, ?_, ?_, ?_, ?_, hlt, st9, A9, B9, o9, hn8, iw9⟩ <;> simp [upd, e2, e3, e16, e17, hta']
end Go.Proofs.YtmnfhmbmifompaaGreatDoor
