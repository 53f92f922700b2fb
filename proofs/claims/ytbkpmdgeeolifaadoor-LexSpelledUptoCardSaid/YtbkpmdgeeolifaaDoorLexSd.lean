/- The law LexSpelled. -/
import Derived.Test.YtbkpmdgeeolifaaDoorLexSg
import Derived.Test.YtbkpmdgeeolifaaDoorLexH
namespace Edict
theorem lastE_snoc (k : Nat) (l : List Tok) (t : Tok) : lastE k (l ++ [t]) = eN t := by unfold lastE; simp
theorem tok_pos {s : List UInt8} {c : Int} {v : List UInt8} {n p o e : Int} (h : tokF s 0 = .ok (c, v, n, p, o, e)) (hc : c ≠ 0) : 0 < s.length := by
  apply Decidable.byContradiction; intro q
  unfold tokF at h
  rw [if_pos (by omega)] at h
  simp only [TR.ok.injEq, Prod.mk.injEq] at h
  exact hc h.1.symm
theorem intSp_len {v z : Int} (hv : -9223372036854775808 ≤ v ∧ v ≤ 9223372036854775807) : (intSp v z).length ≤ 41 := by
  have h1 := dec_len 18 v.natAbs (by have : (10 : Nat) ^ (18 + 1) = 10000000000000000000 := by decide
                                     omega)
  have h2 : (digF v z).length ≤ 40 := by
    unfold digF zerosF
    rw [List.length_append, List.length_replicate]; omega
  unfold intSp
  split
  · rw [List.length_cons]; omega
  · omega
theorem spell_len {p : PartT} {s : List UInt8} {t : Tok} (hv : -9223372036854775808 ≤ p.2.2.1 ∧ p.2.2.1 ≤ 9223372036854775807) (hl : p.2.1.length ≤ 1048576) (h : spellR p = some (s, t)) : s.length ≤ 1048576 := by
  have key : s = p.2.1 ∨ s = intSp p.2.2.1 p.2.2.2.2.2 ∨ (p.2.1.length ≤ 255 ∧ s = textSp p.2.2.2.2.2 p.2.1) ∨ s.length ≤ 3 := by
    unfold spellR at h
    rcases ite_cases h with ⟨-, h⟩ | ⟨-, h⟩
    · rcases ite_cases h with ⟨q, h⟩ | ⟨-, h⟩
      · cases h; exact .inl rfl
      · cases h
    rcases ite_cases h with ⟨-, h⟩ | ⟨-, h⟩
    · rcases ite_cases h with ⟨q, h⟩ | ⟨-, h⟩
      · cases h; exact .inl rfl
      · cases h
    rcases ite_cases h with ⟨-, h⟩ | ⟨-, h⟩
    · cases h; exact .inr (.inl rfl)
    rcases ite_cases h with ⟨-, h⟩ | ⟨-, h⟩
    · rcases ite_cases h with ⟨q, h⟩ | ⟨-, h⟩
      · cases h; exact .inr (.inr (.inl ⟨q, rfl⟩))
      · cases h
    rcases ite_cases h with ⟨-, h⟩ | ⟨-, h⟩
    · cases h; exact .inr (.inr (.inr (by decide)))
    rcases ite_cases h with ⟨-, h⟩ | ⟨-, h⟩
    · cases h; exact .inr (.inr (.inr (by decide)))
    rcases ite_cases h with ⟨-, h⟩ | ⟨-, h⟩
    · cases h; exact .inr (.inr (.inr (by decide)))
    rcases ite_cases h with ⟨-, h⟩ | ⟨-, h⟩
    · cases h; exact .inr (.inr (.inr (by decide)))
    rcases ite_cases h with ⟨-, h⟩ | ⟨-, h⟩
    · cases h; exact .inr (.inr (.inr (by decide)))
    rcases ite_cases h with ⟨-, h⟩ | ⟨-, h⟩
    · cases h; exact .inr (.inr (.inr (by decide)))
    rcases ite_cases h with ⟨-, h⟩ | ⟨-, h⟩
    · rcases ite_cases h with ⟨-, h⟩ | ⟨-, h⟩
      · cases h; exact .inr (.inr (.inr (by decide)))
      rcases ite_cases h with ⟨-, h⟩ | ⟨-, h⟩
      · cases h; exact .inr (.inr (.inr (by decide)))
      rcases ite_cases h with ⟨-, h⟩ | ⟨-, h⟩
      · cases h; exact .inr (.inr (.inr (by decide)))
      rcases ite_cases h with ⟨-, h⟩ | ⟨-, h⟩
      · cases h; exact .inr (.inr (.inr (by decide)))
      rcases ite_cases h with ⟨-, h⟩ | ⟨-, h⟩
      · cases h; exact .inr (.inr (.inr (by decide)))
      rcases ite_cases h with ⟨-, h⟩ | ⟨-, h⟩
      · cases h; exact .inr (.inr (.inr (by decide)))
      cases h
    cases h
  rcases key with q | q | ⟨q1, q⟩ | q
  · rw [q]; exact hl
  · rw [q]; have := intSp_len (z := p.2.2.2.2.2) hv; omega
  · rw [q]; unfold textSp
    have := body_len p.2.2.2.2.2 p.2.1
    rw [List.length_cons, List.length_append, List.length_singleton]; omega
  · omega
theorem betF_len (a b : Nat) (g : Int) : (betF a b g).length ≤ 17 := by
  unfold betF
  repeat' split
  all_goals decide
theorem start_ok : scanK [97] 0 = ([aT] ++ [endT ([97] : List UInt8).length], 0, 0) := by
  rw [← scanF_K (by decide)]; kernel_rfl
end Edict
namespace Go.Proofs.YtbkpmdgeeolifaaDoor
open Go Go.Ev Edict
def G_LexSpelled : Ctr := fun f vs h K _ => (f = 27 ∧ C_spelling vs h K) ∨ (f = 28 ∧ C_betw vs h K) ∨ (f = 21 ∧ C_scan vs h K) ∨ (f = 24 ∧ C_ended vs h K) ∨ (f = 18 ∧ C_same vs h K)
theorem G_LexSpelled_ok : GOk Tryd.prog G_LexSpelled := by
  rintro f vs h K KP (⟨rfl, hC⟩ | ⟨rfl, hC⟩ | ⟨rfl, hC⟩ | ⟨rfl, hC⟩ | ⟨rfl, hC⟩)
  · exact lwSpelling_ok hC
  · exact lwBetween_ok hC
  · exact lxScan_ok hC
  · exact lwEnded_ok hC
  · exact lwSame_ok hC
abbrev GoodP (o : PartT) : Prop := o.2.1.length ≤ 1048576 ∧ (-9223372036854775808 ≤ o.2.2.1 ∧ o.2.2.1 ≤ 9223372036854775807)
def C_spelled (vs : List Value) (h : H) (K : Value → H → Prop) : Prop := ∃ (u : U) (v : Value) (l : List PartT), vs = [v] ∧ IsSl u h v l ∧ l.length ≤ 1048576 ∧ (∀ o ∈ l, GoodP o) ∧ LxG u h ∧ PowG u h ∧ ∀ u' h', Step S0 u h u' h' → K (.bool true) h'
theorem rep_part {u : U} {h : H} {o : PartT} {cs : List Value} : Rep.rep u h o cs = (cs = [.int .i64 o.1, str o.2.1, .int .i64 o.2.2.1, .int .i64 o.2.2.2.1, .int .i64 o.2.2.2.2.1, .int .i64 o.2.2.2.2.2]) := by simp [rep_prod, rep_int, rep_str]
theorem sz_part : Rep.sz PartT = 6 := rfl
theorem LexSpelled_ok {vs : List Value} {h : H} {K : Value → H → Prop} {KP : List PanicEntry → H → Prop} (hC : C_spelled vs h K) : HCX Tryd.prog 11 vs h K KP := by
  obtain ⟨u, v, l, rfl, hv, hlen, hgood, hG, hP, hK⟩ := hC
  obtain ⟨wa, wc, rfl, q1, q2⟩ := hv.sl
  have hm := mlen'
  refine LexSpelled_H G_LexSpelled G_LexSpelled_ok _ ?_
  have O0 := Own.made (k := h.size) u h (Nat.le_refl _) 30 [aT] (tokE aT) rfl (by decide) (fun i x hx => by
    match i with
    | 0 => cases hx; rw [rep_tok]; rfl
    | i + 1 => simp at hx)
  have s0 := Step.push S0 u h (tokE aT).toArray 30 (([aT] : List Tok).length * Rep.sz Tok)
  simp only [tokE, aT] at O0 s0
  simp (disch := first | omega | (simp only [e_ssz, e_psz, e_hszs, List.length_cons, List.length_nil]; try omega; done)) only [↓reduceIte, go_sem, LexSpelled_S, LexSpelled_E]
  obtain ⟨h0, hh0⟩ : ∃ h0, h0 = h.push (.cells #[Value.int .i64 1, str [97], Value.int .i64 0, Value.int .i64 0, Value.int .i64 0, Value.int .i64 1] 30) := ⟨_, rfl⟩
  rw [← hh0] at O0 s0 ⊢
  have hst : scanK [97] 0 = ([aT] ++ [endT ([97] : List UInt8).length], 0, 0) := start_ok
  obtain ⟨I, hI⟩ : ∃ I : Nat → Env → H → Prop, I = fun i σ h' => ∃ (u' : U) (v4 : Value) (T : List UInt8) (W : List Tok), σ 0 = .slice wa l.length wc ∧ σ 3 = str T ∧ σ 4 = v4 ∧ σ 5 = .int .i64 i ∧ i ≤ l.length ∧ Step S0 u h u' h' ∧ Own h.size u' h' v4 W ∧ scanK T 0 = (W ++ [endT T.length], 0, 0) ∧ (∀ t ∈ W, t.1 ≠ 0) ∧ lastE 0 W = T.length ∧ 0 < T.length ∧ T.length ≤ 65536 ∧ W.length ≤ i + 1 := ⟨_, rfl⟩
  refine wpS_loop I (fun j => l.length - j) 0 (by rw [hI]; exact ⟨_, _, [97], [aT], by simp [upd], by simp [upd], by simp [upd], by simp [upd], by omega, s0, O0, hst, by simp [aT], rfl, by decide, by decide, by decide⟩) ?_
  intro i σ h' hy
  rw [hI] at hy
  obtain ⟨u', v4, T, W, e0, e3, e4, e5, hi, st', ow, hT, hWk, hlast, hT0, hT1, hWl⟩ := hy
  have i' := hv.mono st'.ge
  obtain ⟨a4, c4, rfl, m1, m2⟩ := ow.sl
  by_cases hlt : i < l.length
  case neg =>
    have hsT : scanF T = (W ++ [endT T.length], 0, 0) := by rw [scanF_K hT1]; exact hT
    have hW16 : W.length ≤ 1048577 := by omega
    obtain ⟨L, hL⟩ : ∃ L, L = W ++ [endT T.length] := ⟨_, rfl⟩
    have hLl : L.length = W.length + 1 := by rw [hL]; simp
    rw [← hL] at hsT
    simp (disch := first | omega | (simp only [e_ssz, e_psz, e_hszs, List.length_cons, List.length_nil]; try omega; done)) only [↓reduceIte, go_sem, LexSpelled_L1, e0, e3, e5, hlt]
    refine effS_call (.inr (.inr (.inl ⟨rfl, u', T, rfl, by omega, hG.mono st'.ge, fun u2 h2 w s2 o2 => ⟨by simp (disch := first | omega | (simp only [e_ssz, e_psz, e_hszs, List.length_cons, List.length_nil]; try omega; done)) only [go_sem], ?_⟩⟩)))
    rw [hsT] at o2 ⊢
    simp only at o2 ⊢
    obtain ⟨xa, xc, rfl, x1, x2⟩ := o2.sl
    have A3 := Blk.new (u := u2) (h := h2) (fltE 0 0) 25
    have s3 := Step.push0 S0 u2 h2 (fltE 0 0).toArray 25
    have st3 := (st'.trans0 s2).trans0 s3
    have o3 := (o2.step0 s3).isSl
    have w3 := ((ow.step0 s2).step0 s3).isSl
    simp only [fltE] at A3 s3 st3 o3 w3
    simp only [fltE]
    simp (disch := first | omega | (simp only [e_ssz, e_psz, e_hszs, List.length_cons, List.length_nil]; try omega; done)) only [↓reduceIte, go_sem, e3]
    obtain ⟨h3, hh3⟩ : ∃ h3, h3 = h2.push (.cells #[.int .i64 0, .int .i64 0, .int .i64 0] 25) := ⟨_, rfl⟩
    obtain ⟨u3, hu3⟩ : ∃ u3, u3 = ub u2 h2.size 0 := ⟨_, rfl⟩
    rw [← hh3, ← hu3] at A3 s3 st3 o3 w3
    rw [← hh3]
    refine effS_call (.inr (.inr (.inr (.inl ⟨rfl, u3, _, L, 0, 0, T.length, rfl, o3, .inr ⟨rfl, rfl, W, hL, hWk⟩, fun u4 h4 s4 => ⟨by simp (disch := first | omega | (simp only [e_ssz, e_psz, e_hszs, List.length_cons, List.length_nil]; try omega; done)) only [go_sem], ?_⟩⟩))))
    have o4 := o3.mono s4.ge
    have w4 := w3.mono s4.ge
    have st4 := st3.trans0 s4
    rw [decide_eq_true rfl]
    have o5 := isSl_take o4 (k := W.length) (by omega)
    rw [hL, List.take_left] at o5
    simp (disch := first | omega | (simp only [e_ssz, e_psz, e_hszs, List.length_cons, List.length_nil]; try omega; done)) only [↓reduceIte, go_sem, e4, show ((L.length : Nat) : Int) - 1 = (W.length : Nat) by omega]
    refine ⟨by omega, effS_call (.inr (.inr (.inr (.inr ⟨rfl, u4, _, _, W, W, rfl, o5, w4, ⟨by simp (disch := first | omega | (simp only [e_ssz, e_psz, e_hszs, List.length_cons, List.length_nil]; try omega; done)) only [go_sem], ?_⟩⟩))))⟩
    rw [decide_eq_true rfl]
    simp (disch := first | omega | (simp only [e_ssz, e_psz, e_hszs, List.length_cons, List.length_nil]; try omega; done)) only [↓reduceIte, go_sem]
    exact hK _ _ st4
  obtain ⟨p, hp⟩ : ∃ p, l[i]? = some p := ⟨l[i], by simp [hlt]⟩
  obtain ⟨g1, g2⟩ := hgood p (List.mem_of_getElem? hp)
  obtain ⟨pb, po, rfl, hpb, hpu, hpz, hpr⟩ := i'.row i p hp
  rw [rep_part] at hpr
  simp only [sz_part, hvs_6, List.cons.injEq, and_true] at hpr hpu hpz
  obtain ⟨p0, p1, p2, p3, p4, p5⟩ := hpr
  simp (disch := first | omega | (simp only [e_ssz, e_psz, e_hszs, List.length_cons, List.length_nil]; try omega; done)) only [↓reduceIte, go_sem, LexSpelled_L1, e0, e5, hlt, p0, p1, p2, p3, p4, p5]
  refine effS_call (.inl ⟨rfl, u', p, rfl, g1, g2, hP.mono st'.ge, fun u2 h2 s2 => ?_⟩)
  have i2 := i'.mono s2.ge
  obtain ⟨pb', po', hq, hpb2, hpu2, hpz2, hpr2⟩ := i2.row i p hp
  cases hq
  rw [rep_part] at hpr2
  simp only [sz_part, hvs_6, List.cons.injEq, and_true] at hpr2 hpu2 hpz2
  obtain ⟨p0', p1', p2', p3', p4', p5'⟩ := hpr2
  have st2 := st'.trans0 s2
  have ow2 := ow.step0 s2
  cases hsp : spellR p with
  | none =>
    intro s t
    refine ⟨by simp (disch := first | omega | (simp only [e_ssz, e_psz, e_hszs, List.length_cons, List.length_nil]; try omega; done)) only [go_sem], ?_⟩
    have sp := Step.push0 S0 u2 h2 (tokE t).toArray 30
    have A := Blk.new (u := u2) (h := h2) (tokE t) 30
    have ow3 := ow2.step0 sp
    have st3 := st2.trans0 sp
    simp only [tokE] at sp A ow3 st3 ⊢
    simp (disch := first | omega | (simp only [e_ssz, e_psz, e_hszs, List.length_cons, List.length_nil]; try omega; done)) only [↓reduceIte, go_sem, e5]
    refine ⟨i + 1, ?_, by omega⟩
    rw [hI]
    refine ⟨_, _, T, W, ?_, ?_, ?_, ?_, hlt, st3, ow3, hT, hWk, hlast, hT0, hT1, by omega⟩ <;> simp [upd, e0, e3, e4]
  | some st =>
    obtain ⟨s, t⟩ := st
    obtain ⟨tk1, tk2, tk3, tk4⟩ := spell_tok g2 hsp
    have hs0 := tok_pos tk1 tk2
    have hsl := spell_len g2 g1 hsp
    simp only
    refine ⟨by simp (disch := first | omega | (simp only [e_ssz, e_psz, e_hszs, List.length_cons, List.length_nil]; try omega; done)) only [go_sem], ?_⟩
    have sp := Step.push0 S0 u2 h2 (tokE t).toArray 30
    have A := Blk.new (u := u2) (h := h2) (tokE t) 30
    have ow3 := ow2.step0 sp
    have st3 := st2.trans0 sp
    have i3 := i2.mono sp.ge
    obtain ⟨h3, hh3⟩ : ∃ h3, h3 = h2.push (.cells (tokE t).toArray 30) := ⟨_, rfl⟩
    obtain ⟨u3, hu3⟩ : ∃ u3, u3 = ub u2 h2.size 0 := ⟨_, rfl⟩
    have hz3 : h3.size = h2.size + 1 := by rw [hh3]; simp
    rw [← hh3, ← hu3] at sp A ow3 st3 i3
    simp only [tokE] at hh3 A ⊢
    obtain ⟨pb', po', hq, hpb3, hpu3, hpz3, hpr3⟩ := i3.row i p hp
    cases hq
    rw [rep_part] at hpr3
    simp only [sz_part, hvs_6, List.cons.injEq, and_true] at hpr3 hpu3 hpz3
    obtain ⟨p0r, p1r, p2r, p3r, p4r, p5r⟩ := hpr3
    have A1 := A.1
    have hb2 : ∀ b, OwnB (.slice a4 W.length c4) b → b ≠ h2.size := fun b q => by have := ow2.lt q; omega
    simp (disch := first | omega | (simp only [e_ssz, e_psz, e_hszs, List.length_cons, List.length_nil]; try omega; done)) only [↓reduceIte, go_sem, ← hh3, e0, e3, e5, p4r, hlt]
    obtain ⟨g, hg⟩ : ∃ g, g = betF (bat T (T.length - 1)) (bat s 0) p.2.2.2.2.1 := ⟨_, rfl⟩
    have hgl : g.length ≤ 17 := by rw [hg]; exact betF_len _ _ _
    refine effS_call (.inr (.inl ⟨rfl, T, s, p.2.2.2.2.1, rfl, hT0, hs0, hT1, by omega, ⟨by simp (disch := first | omega | (simp only [e_ssz, e_psz, e_hszs, List.length_cons, List.length_nil]; try omega; done)) only [go_sem], ?_⟩⟩))
    rw [← hg]
    by_cases hov : 65536 < T.length + g.length + s.length
    · simp (disch := first | omega | (simp only [e_ssz, e_psz, e_hszs, List.length_cons, List.length_nil]; try omega; done)) only [↓reduceIte, go_sem, e3, e5, eq_true (show (65536 : Int) < (T.length : Nat) + (g.length : Nat) + (s.length : Nat) by omega)]
      refine ⟨i + 1, ?_, by omega⟩
      rw [hI]
      refine ⟨u3, _, T, W, ?_, ?_, ?_, ?_, hlt, st3, ow3, hT, hWk, hlast, hT0, hT1, by omega⟩ <;> simp [upd, e0, e3, e4]
    · have A5 := (A.set (i := 4) (v := .int .i64 ((T.length + g.length : Nat) : Int)) (by simp)).set (i := 5) (v := .int .i64 ((T.length + g.length + s.length : Nat) : Int)) (by simp)
      have w4 := Step.set (S := fun b => b = h2.size) u3 h3 (b := h2.size) (o := 4) (.int .i64 ((T.length + g.length : Nat) : Int)) rfl (by rw [A.2.2.2.1]; exact Nat.zero_le _)
      have w5 := w4.trans (Step.set (S := fun b => b = h2.size) u3 (hset h3 h2.size 4 (.int .i64 ((T.length + g.length : Nat) : Int))) (b := h2.size) (o := 5) (.int .i64 ((T.length + g.length + s.length : Nat) : Int)) rfl (by rw [A.2.2.2.1]; exact Nat.zero_le _)) (fun b _ q => q)
      obtain ⟨h5, hh5⟩ : ∃ h5, h5 = hset (hset h3 h2.size 4 (.int .i64 ((T.length + g.length : Nat) : Int))) h2.size 5 (.int .i64 ((T.length + g.length + s.length : Nat) : Int)) := ⟨_, rfl⟩
      rw [← hh5] at A5 w5
      simp only [List.set_cons_succ, List.set_cons_zero] at A5
      have ow5 := ow3.step w5 hb2
      have hz2 : h.size ≤ h2.size := st2.ge.sz
      have st5 := st3.trans w5 (fun b hb q => by omega)
      have A51 := A5.1
      simp (disch := first | omega | (simp only [e_ssz, e_psz, e_hszs, List.length_cons, List.length_nil]; try omega; done)) only [↓reduceIte, go_sem, e3, e4, eq_false (show ¬ (65536 : Int) < (T.length : Nat) + (g.length : Nat) + (s.length : Nat) by omega), A.2.1, A.2.2.1, ← hh5, A5.at, A5.2.1]
      refine ⟨by omega, by omega, ?_⟩
      obtain ⟨X, hX⟩ : ∃ X, X = T ++ g ++ s := ⟨_, rfl⟩
      have hXl : X.length = T.length + g.length + s.length := by rw [hX]; simp; omega
      refine effS_app1q (by simp only []) ow5 (x := (t.1, t.2.1, t.2.2.1, t.2.2.2.1, ((T.length + g.length : Nat) : Int), ((T.length + g.length + s.length : Nat) : Int))) (by rw [rep_tok]; rfl) rfl rfl (by have := st5.ge.sz; omega) (by omega) fun a9 n9 c9 u9 h9 x9 s9 hO9 => ⟨by simp (disch := first | omega | (simp only [e_ssz, e_psz, e_hszs, List.length_cons, List.length_nil]; try omega; done)) only [go_sem], ?_⟩
      have st9 := st5.trans s9 (fun b hb q => by have := ow5.ge q; omega)
      simp (disch := first | omega | (simp only [e_ssz, e_psz, e_hszs, List.length_cons, List.length_nil]; try omega; done)) only [↓reduceIte, go_sem, e5, ← hX]
      refine ⟨i + 1, ?_, by omega⟩
      rw [hI]
      have hput := put_one (gap := p.2.2.2.2.1) hT hWk hlast hT0 tk1 tk2
      rw [← hg, ← hX, hXl] at hput
      refine ⟨u9, _, X, _, ?_, ?_, ?_, ?_, hlt, st9, x9, by rw [hXl]; exact hput, fun x hx => ?_, ?_, by omega, by omega, ?_⟩
      · simp [upd, e0]
      · simp [upd]
      · simp [upd]
      · simp [upd]
      · rcases List.mem_append.1 hx with hx | hx
        · exact hWk x hx
        · rw [List.mem_singleton.1 hx]; exact tk2
      · rw [lastE_snoc, hXl]
        exact Int.toNat_natCast (T.length + g.length + s.length)
      · rw [List.length_append, List.length_singleton]; omega
theorem LexSpelled_hc {v : Value} {l : List PartT} {h : H} (hv : IsSl (hsz h) h v l) (hl : l.length ≤ 1048576) (hg : ∀ o ∈ l, GoodP o) (hG : LxG (hsz h) h) (hP : PowG (hsz h) h) : HCX Tryd.prog 11 [v] h (fun v h' => v = .bool true ∧ Ext0 h h') fun _ _ => False :=
  LexSpelled_ok ⟨hsz h, v, l, rfl, hv, hl, hg, hG, hP, fun u' h' st => ⟨rfl, st.ext⟩⟩
end Go.Proofs.YtbkpmdgeeolifaaDoor
