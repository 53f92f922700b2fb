/- The document's answer, walked: Fact. -/
import Derived.Test.YtmnfhmbmifompaaDoorPrK
namespace Edict
theorem one_check {src : List UInt8} : (∀ e, parseF oneD src = .error e → checkF 20 src = e ∧ e.1 ≠ 0) ∧ ∀ a, parseF oneD src = .ok a → checkF 20 src = (0, 0) ∧ a = atomF (scanF src).1 ∧ (scanF src).1 ≠ [] := by
  unfold parseF checkF
  by_cases h : 65536 < src.length
  · rw [if_pos h, if_pos h]
    exact ⟨fun e q => by cases q; exact ⟨rfl, (show (1 : Int) ≠ 0 by decide)⟩, fun a q => by cases q⟩
  · rw [if_neg h, if_neg h]
    exact one_same (good_src (by omega))
end Edict
namespace Go.Proofs.YtmnfhmbmifompaaDoor
open Go Go.Ev Edict
def C_rFact (vs : List Value) (h : H) (K : Value → H → Prop) : Prop := ∃ (u : U) (src : List UInt8), vs = [str src] ∧ src.length ≤ 9223372036854775807 ∧
  (∀ e, parseF oneD src = .error e → ∀ u' h', Step S0 u h u' h' → K (.tuple #[.agg #[str [], .slice none 0 0], fltV e]) h') ∧
  (∀ a, parseF oneD src = .ok a → ∀ u' h' w, Step S0 u h u' h' → Own h.size u' h' w (a.2.1.map constD) → K (.tuple #[.agg #[str a.1, w], fltV (0, 0)]) h')
def G_rF : Ctr := fun f vs h K _ => (f = 58 ∧ C_rCheck vs h K) ∨ (f = 59 ∧ C_rAtom vs h K)
theorem G_rF_ok : GOk Tryd.prog G_rF := by
  rintro f vs h K KP (⟨rfl, hC⟩ | ⟨rfl, hC⟩)
  · exact rpCheck_ok hC
  · exact rpAtom_ok hC
theorem rpFact_ok {vs : List Value} {h : H} {K : Value → H → Prop} {KP : List PanicEntry → H → Prop} (hC : C_rFact vs h K) : HCX Tryd.prog 20 vs h K KP := by
  obtain ⟨u, src, rfl, hl, hKE, hKO⟩ := hC
  refine rpFact_H G_rF G_rF_ok _ ?_
  have s1 := Step.push0 S0 u h #[str [], .slice none 0 0] 24
  have B1 := Blk.new (u := u) (h := h) [str [], .slice none 0 0] 24
  obtain ⟨h1, hh1⟩ : ∃ h1, h1 = h.push (.cells #[str [], .slice none 0 0] 24) := ⟨_, rfl⟩
  obtain ⟨u1, hu1⟩ : ∃ u1, u1 = ub u h.size 0 := ⟨_, rfl⟩
  have B1' : Blk u1 h1 h.size [str [], .slice none 0 0] := by rw [hu1, hh1]; exact B1
  rw [← hh1, ← hu1] at s1
  clear B1
  have s2 := Step.push0 S0 u1 h1 #[.int .i64 0, .int .i64 0, .int .i64 0] 27
  have B2 := Blk.new (u := u1) (h := h1) [.int .i64 0, .int .i64 0, .int .i64 0] 27
  obtain ⟨h2, hh2⟩ : ∃ h2, h2 = h1.push (.cells #[.int .i64 0, .int .i64 0, .int .i64 0] 27) := ⟨_, rfl⟩
  obtain ⟨u2, hu2⟩ : ∃ u2, u2 = ub u1 h1.size 0 := ⟨_, rfl⟩
  have B2' : Blk u2 h2 h1.size [.int .i64 0, .int .i64 0, .int .i64 0] := by rw [hu2, hh2]; exact B2
  rw [← hh2, ← hu2] at s2
  clear B2
  have z1 : h1.size = h.size + 1 := by rw [hh1]; simp
  have z2 : h2.size = h1.size + 1 := by rw [hh2]; simp
  have st2 := s1.trans0 s2
  have A1 := B1'.step0 s2
  obtain ⟨hcE, hcO⟩ := one_check (src := src)
  simp (disch := first | omega | (simp only [e_ssz, e_psz, e_hszs, List.length_cons, List.length_nil]; try omega; done)) only [↓reduceIte, go_sem, rpFact_S, rpFact_E, ← hh1, ← hh2]
  refine effS_call (.inl ⟨rfl, u2, src, 20, rfl, hl, by omega, fun hne u3 h3 s3 => ⟨by simp (disch := first | omega | (simp only [e_ssz, e_psz, e_hszs, List.length_cons, List.length_nil]; try omega; done)) only [go_sem], ?_⟩, fun heq u3 h3 w s3 ow => ⟨by simp (disch := first | omega | (simp only [e_ssz, e_psz, e_hszs, List.length_cons, List.length_nil]; try omega; done)) only [go_sem], ?_⟩⟩)
  · cases hp : parseF oneD src with
    | ok a => exact absurd (by rw [(hcO a hp).1]) hne
    | error f =>
      rw [(hcE f hp).1] at hne ⊢
      obtain ⟨h5, h6, u6, hh5, hh6, B5, A5, s6, hz6⟩ := boxed u3 h3 [.int .i64 0, .int .i64 0, .int .i64 0] [.int .i64 f.1, .int .i64 0, .int .i64 f.2] 27 rfl
      have A1' := (A1.step0 s3).step0 s6
      have A2' := (B2'.step0 s3).step0 s6
      have st := (st2.trans0 s3).trans0 s6
      have hz3 := s3.ge.sz
      have B51 := B5.1
      have A51 := A5.1
      have A11 := A1'.1
      have A21 := A2'.1
      have A17 := A1'.sets (l := [str [], .slice none 0 0]) rfl
      have s7 := Step.sets (S := fun b => b = h.size) u6 h6 (b := h.size) (o := 0) [str [], .slice none 0 0] rfl (by rw [A1'.2.2.2.1]; exact Nat.zero_le _) (by rw [A1'.2.1]; exact Nat.le_refl _)
      obtain ⟨h7, hh7⟩ : ∃ h7, h7 = hsets h6 h.size 0 [str [], .slice none 0 0] := ⟨_, rfl⟩
      rw [← hh7] at A17 s7
      have A27 := A2'.step s7 (by omega)
      have A57 := A5.step s7 (by omega)
      have A28 := A27.sets (l := [.int .i64 f.1, .int .i64 0, .int .i64 f.2]) rfl
      have s8 := Step.sets (S := fun b => b = h1.size) u6 h7 (b := h1.size) (o := 0) [.int .i64 f.1, .int .i64 0, .int .i64 f.2] rfl (by rw [A27.2.2.2.1]; exact Nat.zero_le _) (by rw [A27.2.1]; exact Nat.le_refl _)
      obtain ⟨h8, hh8⟩ : ∃ h8, h8 = hsets h7 h1.size 0 [.int .i64 f.1, .int .i64 0, .int .i64 f.2] := ⟨_, rfl⟩
      rw [← hh8] at A28 s8
      have A18 := A17.step s8 (by omega)
      have st8 := (st.trans s7 (fun b hb q => by omega)).trans s8 (fun b hb q => by omega)
      have A181 := A18.1
      have A281 := A28.1
      have A571 := A57.1
      have A271 := A27.1
      simp only [fltV]
      simp (disch := first | omega | (simp only [e_ssz, e_psz, e_hszs, List.length_cons, List.length_nil]; try omega; done)) only [↓reduceIte, go_sem, ← hh5, ← hh6, B5.2.1, B5.2.2.1, A5.at, A5.2.1, eq_false hne, A1'.2.1, A1'.2.2.1, ← hh7, A57.at, A57.2.1, A27.2.1, A27.2.2.1, ← hh8, A18.at, A18.2.1, A28.at, A28.2.1]
      exact hKE f hp _ _ st8
  · cases hp : parseF oneD src with
    | error f => exact absurd (by rw [← (hcE f hp).1]; exact heq) (hcE f hp).2
    | ok a =>
    obtain ⟨-, ha, hne⟩ := hcO a hp
    obtain ⟨t, l, htl⟩ : ∃ t l, (scanF src).1 = t :: l := by
      cases hs : (scanF src).1 with
      | nil => exact absurd hs hne
      | cons t l => exact ⟨t, l, rfl⟩
    have hll : l.length ≤ 65537 := by have := scanF_len src; rw [htl] at this; simp at this; omega
    rw [htl] at ow ha
    have hK := hKO a hp
    have ha1 : a.1 = tX t ∧ a.2.1 = argsOf l ∧ a.2.2 = tO t := by rw [ha]; exact ⟨rfl, rfl, rfl⟩
    obtain ⟨h5, h6, u6, hh5, hh6, B5, A5, s6, hz6⟩ := boxed u3 h3 [.int .i64 0, .int .i64 0, .int .i64 0] [.int .i64 0, .int .i64 0, .int .i64 0] 27 rfl
    have A1' := (A1.step0 s3).step0 s6
    have A2' := (B2'.step0 s3).step0 s6
    have st6 := (st2.trans0 s3).trans0 s6
    have ow6 := ow.step0 s6
    have hz3 := s3.ge.sz
    have B51 := B5.1
    have A51 := A5.1
    obtain ⟨wa0, wc0, rfl, m1, m2⟩ := ow.sl
    simp only [fltV]
    simp (disch := first | omega | (simp only [e_ssz, e_psz, e_hszs, List.length_cons, List.length_nil]; try omega; done)) only [↓reduceIte, go_sem, ← hh5, ← hh6, B5.2.1, B5.2.2.1, A5.at, A5.2.1]
    refine effS_call (.inr ⟨rfl, u6, _, t, l, rfl, ow6.isSl, hll, fun u7 h7 w7 s7 o7 => ⟨by simp (disch := first | omega | (simp only [e_ssz, e_psz, e_hszs, List.length_cons, List.length_nil]; try omega; done)) only [go_sem], ?_⟩⟩)
    rw [← ha1.1, ← ha1.2.2]
    rw [← ha1.2.1] at o7
    obtain ⟨wa, wc, rfl, n1, n2⟩ := o7.sl
    obtain ⟨h8, h9, u9, hh8, hh9, B8, B9, s9, hz9⟩ := boxed u7 h7 [str [], .slice none 0 0, .int .i64 0] [str a.1, .slice wa a.2.1.length wc, .int .i64 a.2.2] 52 rfl
    obtain ⟨h10, h11, u11, hh10, hh11, B10, X11, s11, hz11⟩ := boxed u9 h9 [str [], .slice none 0 0] [str a.1, .slice none 0 0] 24 rfl
    have B9' := B9.step0 s11
    have A1x := ((A1'.step0 s7).step0 s9).step0 s11
    have A2x := ((A2'.step0 s7).step0 s9).step0 s11
    have st11 := ((st6.trans0 s7).trans0 s9).trans0 s11
    have i11 := ((o7.step0 s9).step0 s11).isSl
    have B81 := B8.1
    have B91 := B9.1
    have B101 := B10.1
    have X111 := X11.1
    have B91' := B9'.1
    obtain ⟨xb, hxb⟩ : ∃ xb, xb = h9.size := ⟨_, rfl⟩
    have hz7 := s7.ge.sz
    have hxs : h1.size < xb := by omega
    have hlen8 : a.2.1.length ≤ 65537 := by rw [ha1.2.1]; have := argsOf_len l; omega
    simp (disch := first | omega | (simp only [e_ssz, e_psz, e_hszs, List.length_cons, List.length_nil]; try omega; done)) only [↓reduceIte, go_sem, ← hh8, ← hh9, B8.2.1, B8.2.2.1, B9.at, B9.2.1, ← hh10, ← hh11, B10.2.1, B10.2.2.1, B9'.at, B9'.2.1]
    rw [← hxb] at X11 ⊢
    obtain ⟨I, hI⟩ : ∃ I : Nat → Env → H → Prop, I = fun k σ h' => ∃ (u' : U) (wv : Value), σ 2 = .pointer (some ⟨h.size, 0, none⟩) ∧ σ 3 = .pointer (some ⟨h1.size, 0, none⟩) ∧ σ 7 = .pointer (some ⟨xb, 0, none⟩) ∧ σ 26 = .slice wa a.2.1.length wc ∧ σ 27 = .int .i64 (a.2.1.length : Nat) ∧ σ 28 = .int .i64 k ∧ k ≤ a.2.1.length ∧ Step S0 u h u' h' ∧ Blk u' h' h.size [str [], .slice none 0 0] ∧ Blk u' h' h1.size [.int .i64 0, .int .i64 0, .int .i64 0] ∧ Blk u' h' xb [str a.1, wv] ∧ Own h2.size u' h' wv ((a.2.1.take k).map constD) ∧ (∀ b, OwnB wv b → b ≠ xb) ∧ IsSl u' h' (.slice wa a.2.1.length wc) a.2.1 := ⟨_, rfl⟩
    refine wpS_loop I (fun j => a.2.1.length - j) 0 (by rw [hI]; exact ⟨u11, _, by simp [upd], by simp [upd], by simp [upd], by simp [upd], by simp [upd], by simp [upd], by omega, st11, A1x, A2x, X11, .nil _ _ _, fun b ⟨_, _, _, q⟩ => (by cases q), i11⟩) ?_
    clear hh5 hh6 hh8 hh9 hh10 hh11 B8 B81 B9 B9' B91' B10 B101 X11 A1x A2x st11 i11 A5 B5 B51 A51 A1' A2' st6 ow6 o7 s7 s9 s11 hh1 hh2 X111
    intro k σ h' hy
    rw [hI] at hy
    obtain ⟨u', wv, e2, e3, e1, e14, e15, e16, hk', st, A1', A2', X, ow, hwx, iw⟩ := hy
    obtain ⟨va, vc, rfl, n1, n2⟩ := ow.sl
    have hX1 := X.1
    have A11 := A1'.1
    have A21 := A2'.1
    by_cases hlt : k < a.2.1.length
    case neg =>
      rw [List.take_of_length_le (by omega)] at ow X
      have A5 := X
      have A17 := A1'.sets (l := [str a.1, .slice va (a.2.1.map constD).length vc]) rfl
      have s7 := Step.sets (S := fun b => b = h.size) u' h' (b := h.size) (o := 0) [str a.1, .slice va (a.2.1.map constD).length vc] rfl (by rw [A1'.2.2.2.1]; exact Nat.zero_le _) (by rw [A1'.2.1]; exact Nat.le_refl _)
      obtain ⟨h7, hh7⟩ : ∃ h7, h7 = hsets h' h.size 0 [str a.1, .slice va (a.2.1.map constD).length vc] := ⟨_, rfl⟩
      rw [← hh7] at A17 s7
      have A27 := A2'.step s7 (by omega)
      have A57 := A5.step s7 (by omega)
      have A28 := A27.sets (l := [.int .i64 0, .int .i64 0, .int .i64 0]) rfl
      have s8 := Step.sets (S := fun b => b = h1.size) u' h7 (b := h1.size) (o := 0) [.int .i64 0, .int .i64 0, .int .i64 0] rfl (by rw [A27.2.2.2.1]; exact Nat.zero_le _) (by rw [A27.2.1]; exact Nat.le_refl _)
      obtain ⟨h8, hh8⟩ : ∃ h8, h8 = hsets h7 h1.size 0 [.int .i64 0, .int .i64 0, .int .i64 0] := ⟨_, rfl⟩
      rw [← hh8] at A28 s8
      have A18 := A17.step s8 (by omega)
      have st8 := (st.trans s7 (fun b hb q => by omega)).trans s8 (fun b hb q => by omega)
      have A181 := A18.1
      have A281 := A28.1
      have A571 := A57.1
      have A271 := A27.1
      have ow8 := (ow.step s7 (fun b q q' => by have := ow.ge q; omega)).step s8 (fun b q q' => by have := ow.ge q; omega)
      simp (disch := first | omega | (simp only [e_ssz, e_psz, e_hszs, List.length_cons, List.length_nil]; try omega; done)) only [↓reduceIte, go_sem, rpFact_L1, e1, e2, e3, e15, e16, eq_false (show ¬ (k : Int) < (a.2.1.length : Nat) by omega), X.at, X.2.1, A1'.2.1, A1'.2.2.1, ← hh7, A27.2.1, A27.2.2.1, ← hh8, A18.at, A18.2.1, A28.at, A28.2.1]
      exact hK _ _ _ st8 (ow8.mono (by omega))
    obtain ⟨x, hx⟩ : ∃ x, a.2.1[k]? = some x := ⟨a.2.1[k], by simp [hlt]⟩
    obtain ⟨pb, po, rfl, hpb, hpu, hpz, hpr⟩ := iw.row k x hx
    rw [rep_term] at hpr
    simp only [termE, sz_term, hvs_4, List.cons.injEq, and_true] at hpr hpu hpz
    obtain ⟨p0, p1, p2, p3⟩ := hpr
    obtain ⟨h3, h4, u4, hh3, hh4, B3, B4, s4, hz4⟩ := boxed u' h' [.int .i64 0, .int .i64 0, str [], .int .i64 0] (termE x) 87 rfl
    simp only [termE] at hh4 B4
    have X4 := X.step0 s4
    have ow4 := ow.step0 s4
    have iw4 := iw.mono s4.ge
    have st4 := st.trans0 s4
    have B31 := B3.1
    have B41 := B4.1
    have X41 := X4.1
    have hkl : ((a.2.1.take k).map constD).length = k := by simp; omega
    obtain ⟨acc, hacc⟩ : ∃ acc, acc = (a.2.1.take k).map constD := ⟨_, rfl⟩
    rw [← hacc] at X4 ow4 hwx hkl
    rw [← hacc] at X
    have hsn : (a.2.1.take (k + 1)).map constD = acc ++ [constD x] := by
      rw [List.take_add_one, hx, hacc]; simp
    simp (disch := first | omega | (simp only [e_ssz, e_psz, e_hszs, List.length_cons, List.length_nil]; try omega; done)) only [↓reduceIte, go_sem, rpFact_L1, e1, e14, e15, e16, eq_true (show (k : Int) < (a.2.1.length : Nat) by omega), p0, p1, p2, p3, ← hh3, ← hh4, B3.2.1, B3.2.2.1, B4.at, B4.2.1, X4.at, X4.2.1]
    refine effS_app1q (by simp only []) ow4 (x := constD x) (by rw [rep_const]; rfl) rfl rfl (by have := st4.ge.sz; omega) (by omega) fun a5 n5 c5 u5 h5 o5 s5 hO5 => ⟨by simp (disch := first | omega | (simp only [e_ssz, e_psz, e_hszs, List.length_cons, List.length_nil]; try omega; done)) only [go_sem], ?_⟩
    obtain ⟨_, _, hme, m51, m52⟩ := o5.sl
    simp only [Value.slice.injEq] at hme
    obtain ⟨rfl, rfl, rfl⟩ := hme
    rw [← hsn] at o5 hO5 m51 ⊢
    have X5 := X4.step s5 (fun q => hwx _ q rfl)
    have X51 := X5.1
    have X6 := X5.set (i := 1) (v := .slice a5 ((a.2.1.take (k + 1)).map constD).length c5) (by simp)
    have s6 := Step.set (S := fun b => b = xb) u5 h5 (b := xb) (o := 1) (.slice a5 ((a.2.1.take (k + 1)).map constD).length c5) rfl (by rw [X5.2.2.2.1]; exact Nat.zero_le _)
    obtain ⟨h6, hh6⟩ : ∃ h6, h6 = hset h5 xb 1 (.slice a5 ((a.2.1.take (k + 1)).map constD).length c5) := ⟨_, rfl⟩
    rw [← hh6] at X6 s6
    simp only [List.set_cons_succ, List.set_cons_zero] at X6
    have hn5 : ∀ b, OwnB (.slice a5 ((a.2.1.take (k + 1)).map constD).length c5) b → b ≠ xb := fun b q => (hO5 b q).elim (hwx b) (fun z => by omega)
    have o6 := o5.step s6 (fun b q q' => hn5 b q q')
    have A16 := ((A1'.step0 s4).step s5 (fun q => by have := ow4.ge q; omega)).step s6 (by omega)
    have A26 := ((A2'.step0 s4).step s5 (fun q => by have := ow4.ge q; omega)).step s6 (by omega)
    have st6 := (st4.trans s5 (fun b hb q => by have := ow4.ge q; omega)).trans s6 (fun b hb q => by omega)
    have iw6 := (iw4.mono s5.ge).mono s6.ge
    obtain ⟨nl, hnl⟩ : ∃ nl, nl = ((a.2.1.take (k + 1)).map constD).length := ⟨_, rfl⟩
    rw [← hnl] at o6 X6 hh6 hn5 ⊢
    simp (disch := first | omega | (simp only [e_ssz, e_psz, e_hszs, List.length_cons, List.length_nil]; try omega; done)) only [↓reduceIte, go_sem, X5.2.1, X5.2.2.1, ← hh6, e16, e1]
    refine ⟨k + 1, ?_, by omega⟩
    rw [hI]
    refine ⟨u5, .slice a5 nl c5, ?_, ?_, ?_, ?_, ?_, ?_, hlt, st6, A16, A26, X6, o6, hn5, iw6⟩ <;> simp [upd, e1, e2, e3, e14, e15]
end Go.Proofs.YtmnfhmbmifompaaDoor
