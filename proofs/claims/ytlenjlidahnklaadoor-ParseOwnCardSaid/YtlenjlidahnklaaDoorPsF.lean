/- Fact, walked: the closure that reads, and the function. -/
import Derived.Test.YtlenjlidahnklaaDoorPsG
namespace Edict
abbrev ConstT := Int × Int × List UInt8
def constD (x : TermT) : ConstT := (x.1, x.2.1, x.2.2.1)
theorem argsD_most (bad : Flt) (vars : Bool) : ∀ (l : List Tok) (acc a : List TermT) (q : List Tok), argsD bad vars acc l = .ok (a, q) → acc.length ≤ 8 → a.length ≤ 8
  | [], acc, a, q, h, _ => by unfold argsD at h; cases h
  | [t], acc, a, q, h, _ => by
    rw [argsD_cons] at h
    split at h
    · cases h
    · split at h <;> cases h
  | t :: c :: r, acc, a, q, h, hl => by
    rw [argsD_cons] at h
    split at h
    · cases h
    · rename_i h8
      split at h
      · cases h
      · rename_i hT
        have h8' : acc.length < 8 := Nat.lt_of_not_le fun q => h8 ⟨q, by simpa using hT⟩
        simp only at h
        split at h
        · exact argsD_most bad vars r _ _ _ h (by simp; omega)
        · split at h
          · cases h; simp; omega
          · cases h
theorem atomD_most {bad : Flt} {vars : Bool} {l : List Tok} {a : AtomT} {q : List Tok} (h : atomD bad vars l = .ok (a, q)) : a.2.1.length ≤ 8 := by
  cases l with
  | nil => rw [atomD] at h; cases h
  | cons t l =>
    by_cases ht : tK t = 1
    case neg => rw [atomD_no ht] at h; cases h
    cases l with
    | nil => rw [atomD_nil ht] at h; cases h
    | cons p r =>
      rw [atomD_on ht] at h
      split at h
      · cases h; simp
      · split at h
        · cases h
        · rename_i a' q' ha
          cases h
          exact argsD_most _ _ _ _ _ _ ha (by simp)
/-- The text's end, behind what was read. -/
def endD {α : Type} (bad : Flt) (x : α) : List Tok → Except Flt α
  | [] => .error bad
  | t :: _ => if tK t = 0 then .ok x else .error (refuseD t)
theorem endD_no {α : Type} {bad : Flt} {x : α} {t : Tok} {r : List Tok} (h : tK t ≠ 0) : endD bad x (t :: r) = .error (refuseD t) := by show (if tK t = 0 then _ else _) = _; rw [if_neg h]
theorem endD_ok {α : Type} {bad : Flt} {x : α} {t : Tok} {r : List Tok} (h : tK t = 0) : endD bad x (t :: r) = .ok x := by show (if tK t = 0 then _ else _) = _; rw [if_pos h]
theorem oneD_err {bad : Flt} {l : List Tok} {e : Flt} (h : atomD bad false l = .error e) : oneD bad l = .error e := by unfold oneD; rw [h]
theorem oneD_ok {bad : Flt} {l q : List Tok} {a : AtomT} (h : atomD bad false l = .ok (a, q)) : oneD bad l = endD bad a q := by unfold oneD; rw [h]; cases q <;> rfl
/-- What a text's one fact is, or its fault. -/
def badF (src : List UInt8) : Flt := ((scanF src).2.1, ((scanF src).2.2 : Int))
def parseF {α : Type} (r : Flt → List Tok → Except Flt α) (src : List UInt8) : Except Flt α := if 65536 < src.length then .error (1, 0) else r (badF src) (scanF src).1
theorem good_src {src : List UInt8} (h : src.length ≤ 65536) : GoodR (scanF src).1 (badF src) := by
  have hs : scanF src = scanK src 0 := by unfold scanF scanK; rw [if_neg (by omega)]
  exact good_scan (scan_shape (s := src) (k := 0) (l := (scanF src).1) (c := (scanF src).2.1) (p := (scanF src).2.2) (Nat.zero_le _) (by rw [← hs]))
theorem parseF_ne {α : Type} {r : Flt → List Tok → Except Flt α} (hr : ∀ bad l, GoodR l bad → ∀ e, r bad l = .error e → e.1 ≠ 0) {src : List UInt8} {e : Flt} (h : parseF r src = .error e) : e.1 ≠ 0 := by
  unfold parseF at h
  split at h
  · cases h; exact (show (1 : Int) ≠ 0 by decide)
  · exact hr _ _ (good_src (by omega)) _ h
end Edict
namespace Go.Ev
open Go Rep Edict
theorem rep_const {u : U} {h : H} {x : ConstT} {cs : List Value} : rep u h x cs = (cs = [.int .i64 x.1, .int .i64 x.2.1, str x.2.2]) := by simp [rep_prod, rep_int, rep_str]
theorem sz_const : sz ConstT = 3 := rfl
end Go.Ev
namespace Go.Proofs.YtlenjlidahnklaaDoor
open Go Go.Ev Edict
def C_pFactY (vs : List Value) (h : H) (K : Value → H → Prop) (KP : List PanicEntry → H → Prop) : Prop := ∃ (u : U) (rb xb : Nat) (sl : Value) (L : List Tok) (bad : Flt), vs = [.pointer (some ⟨rb, 0, none⟩), .pointer (some ⟨xb, 0, none⟩)] ∧ RdB u h rb sl L bad 0 ∧ Blk u h xb [str [], .slice none 0 0] ∧ xb ≠ rb ∧
  (∀ e, oneD bad L = .error e → ∀ u' h', Step (fun b => b = rb ∨ b = xb) u h u' h' → KP (gu e) h') ∧
  (∀ a, oneD bad L = .ok a → ∀ u' h' w v, Step (fun b => b = rb ∨ b = xb) u h u' h' → Blk u' h' xb [str a.1, w] → Own h.size u' h' w (a.2.1.map constD) → K v h')
def G_pFY : Ctr := fun f vs h K KP => (f = 34 ∧ C_pAtom vs h K KP) ∨ (f = 32 ∧ C_pTake vs h K KP)
theorem G_pFY_ok : GOk Tryd.prog G_pFY := by
  rintro f vs h K KP (⟨rfl, hC⟩ | ⟨rfl, hC⟩)
  · exact psAtom_ok hC
  · exact psTake_ok hC
theorem psFactY_ok {vs : List Value} {h : H} {K : Value → H → Prop} {KP : List PanicEntry → H → Prop} (hC : C_pFactY vs h K KP) : HCX Tryd.prog 35 vs h K KP := by
  obtain ⟨u, rb, xb, sl, L, bad, rfl, hR, hX, hxr, hKE, hKO⟩ := hC
  refine psFactY_H G_pFY G_pFY_ok _ _ ?_
  have hrb := hR.1.1
  have hxb := hX.1
  have hLl := hR.2.2.2
  simp (disch := first | omega | (simp only [e_ssz, e_psz, e_hszs, List.length_cons, List.length_nil]; try omega; done)) only [↓reduceIte, go_sem, psFactY_S, psFactY_E]
  have up : ∀ {u' : U} {h' : H}, Step (fun b => b = rb) u h u' h' → Step (fun b => b = rb ∨ b = xb) u h u' h' := fun s => s.mono (fun _ _ q => .inl q)
  refine effS_call (.inl ⟨rfl, u, rb, sl, L, bad, 0, false, rfl, hR, fun e he u2 h2 s2 => ?_, fun a q ha u2 h2 w i2 s2 hR2 hd2 o2 => ⟨by simp (disch := first | omega | (simp only [e_ssz, e_psz, e_hszs, List.length_cons, List.length_nil]; try omega; done)) only [go_sem], ?_⟩⟩)
  · exact hKE e (oneD_err (by rw [List.drop_zero] at he; exact he)) _ _ (up s2)
  rw [List.drop_zero] at ha
  rw [oneD_ok ha] at hKE hKO
  have ha8 := atomD_most ha
  clear ha
  have hX2 := hX.step s2 hxr
  have hz2 : h.size ≤ h2.size := s2.ge.sz
  obtain ⟨wa, wc, rfl, m1, m2⟩ := o2.sl
  obtain ⟨h3, h4, u4, hh3, hh4, B3, B4, s4, hz4⟩ := boxed u2 h2 [str [], .slice none 0 0, .int .i64 0] [str a.1, .slice wa a.2.1.length wc, .int .i64 a.2.2] 60 rfl
  have hX4 := hX2.step0 s4
  have hR4 := hR2.step0 s4
  have o4 := o2.step0 s4
  have st4 := (up s2).trans0 s4
  have B31 := B3.1
  have B41 := B4.1
  simp (disch := first | omega | (simp only [e_ssz, e_psz, e_hszs, List.length_cons, List.length_nil]; try omega; done)) only [↓reduceIte, go_sem, ← hh3, ← hh4, B3.2.1, B3.2.2.1]
  refine effS_call (.inr ⟨rfl, u4, rb, sl, L, bad, i2, 0, rfl, hR4, fun u5 h5 s5 hd => ?_, fun u5 h5 t r s5 hd hk => ?_, fun u5 h5 t r s5 hd hk _ => ⟨by simp (disch := first | omega | (simp only [e_ssz, e_psz, e_hszs, List.length_cons, List.length_nil]; try omega; done)) only [go_sem], ?_⟩, fun u5 h5 t r s5 hd hk h0 => absurd rfl h0⟩)
  · rw [hd2] at hd; subst hd
    exact hKE bad rfl _ _ (st4.trans0 s5)
  · rw [hd2] at hd; subst hd
    exact hKE _ (endD_no hk) _ _ (st4.trans0 s5)
  rw [hd2] at hd; subst hd
  have hK := hKO a (endD_ok hk)
  clear hKE hKO
  have hX5 := hX4.step0 s5
  have B5 := B4.step0 s5
  have o5 := o4.step0 s5
  have st5 := st4.trans0 s5
  have hX51 := hX5.1
  have B51 := B5.1
  have X6 := hX5.set (i := 0) (v := str a.1) (by simp)
  have s6 := Step.set (S := fun b => b = rb ∨ b = xb) u5 h5 (b := xb) (o := 0) (str a.1) (.inr rfl) (by rw [hX5.2.2.2.1]; exact Nat.zero_le _)
  obtain ⟨h6, hh6⟩ : ∃ h6, h6 = hset h5 xb 0 (str a.1) := ⟨_, rfl⟩
  rw [← hh6] at X6 s6
  simp only [List.set_cons_zero] at X6
  have hb2x : h2.size ≠ xb := by have := s2.ge.sz; omega
  have B6 := B5.step s6 (fun q => q.elim (fun q => by omega) hb2x)
  have o6 := o5.step s6 (fun b q q' => by have := o5.ge q; rcases q' with q' | q' <;> omega)
  have st6 := st5.trans s6 (fun b _ q => q)
  have B61 := B6.1
  have hX61 := X6.1
  simp (disch := first | omega | (simp only [e_ssz, e_psz, e_hszs, List.length_cons, List.length_nil]; try omega; done)) only [↓reduceIte, go_sem, B5.at, B5.2.1, hX5.2.1, hX5.2.2.1, ← hh6, B6.at, B6.2.1]
  have i6 := o6.isSl
  obtain ⟨I, hI⟩ : ∃ I : Nat → Env → H → Prop, I = fun k σ h' => ∃ (u' : U) (wv : Value), σ 1 = .pointer (some ⟨xb, 0, none⟩) ∧ σ 14 = .slice wa a.2.1.length wc ∧ σ 15 = .int .i64 (a.2.1.length : Nat) ∧ σ 16 = .int .i64 k ∧ k ≤ a.2.1.length ∧ Step (fun b => b = rb ∨ b = xb) u h u' h' ∧ Blk u' h' xb [str a.1, wv] ∧ Own h.size u' h' wv ((a.2.1.take k).map constD) ∧ IsSl u' h' (.slice wa a.2.1.length wc) a.2.1 := ⟨_, rfl⟩
  refine wpS_loop I (fun j => a.2.1.length - j) 0 (by rw [hI]; exact ⟨u5, _, by simp [upd], by simp [upd], by simp [upd], by simp [upd], by omega, st6, X6, .nil _ _ _, i6⟩) ?_
  clear hh3 hh4 hh6 B3 B31 B41 B5 B51 X6 s6 hX51 hX61 B6 B61 i6 st6 o6 hX5 st5 o5 hX4 st4 o4 hX2 B4 s4 s5 hR4 hR2 s2 o2
  intro k σ h' hy
  rw [hI] at hy
  obtain ⟨u', wv, e1, e14, e15, e16, hk', st, X, ow, iw⟩ := hy
  obtain ⟨va, vc, rfl, n1, n2⟩ := ow.sl
  have hX1 := X.1
  by_cases hlt : k < a.2.1.length
  case neg =>
    rw [List.take_of_length_le (by omega)] at ow X
    simp (disch := first | omega | (simp only [e_ssz, e_psz, e_hszs, List.length_cons, List.length_nil]; try omega; done)) only [↓reduceIte, go_sem, psFactY_L1, e15, e16, eq_false (show ¬ (k : Int) < (a.2.1.length : Nat) by omega)]
    exact hK _ _ _ _ st X ow
  obtain ⟨x, hx⟩ : ∃ x, a.2.1[k]? = some x := ⟨a.2.1[k], by simp [hlt]⟩
  obtain ⟨pb, po, rfl, hpb, hpu, hpz, hpr⟩ := iw.row k x hx
  rw [rep_term] at hpr
  simp only [termE, sz_term, hvs_4, List.cons.injEq, and_true] at hpr hpu hpz
  obtain ⟨p0, p1, p2, p3⟩ := hpr
  obtain ⟨h3, h4, u4, hh3, hh4, B3, B4, s4, hz4⟩ := boxed u' h' [.int .i64 0, .int .i64 0, str [], .int .i64 0] (termE x) 72 rfl
  simp only [termE] at hh4 B4
  have X4 := X.step0 s4
  have ow4 := ow.step0 s4
  have iw4 := iw.mono s4.ge
  have st4 := st.trans0 s4
  have B31 := B3.1
  have B41 := B4.1
  have X41 := X4.1
  have hwx : ∀ b, OwnB (.slice va ((a.2.1.take k).map constD).length vc) b → b ≠ xb := fun b q => by have := ow.ge q; omega
  have hkl : ((a.2.1.take k).map constD).length = k := by simp; omega
  obtain ⟨acc, hacc⟩ : ∃ acc, acc = (a.2.1.take k).map constD := ⟨_, rfl⟩
  rw [← hacc] at X4 ow4 hwx hkl
  rw [← hacc] at X
  have hsn : (a.2.1.take (k + 1)).map constD = acc ++ [constD x] := by
    rw [List.take_add_one, hx, hacc]; simp
  simp (disch := first | omega | (simp only [e_ssz, e_psz, e_hszs, List.length_cons, List.length_nil]; try omega; done)) only [↓reduceIte, go_sem, psFactY_L1, e1, e14, e15, e16, eq_true (show (k : Int) < (a.2.1.length : Nat) by omega), p0, p1, p2, p3, ← hh3, ← hh4, B3.2.1, B3.2.2.1, B4.at, B4.2.1, X4.at, X4.2.1]
  refine effS_app1q (by simp only []) ow4 (x := constD x) (by rw [rep_const]; rfl) rfl rfl (by have := st4.ge.sz; omega) (by omega) fun a5 n5 c5 u5 h5 o5 s5 hO5 => ⟨by simp (disch := first | omega | (simp only [e_ssz, e_psz, e_hszs, List.length_cons, List.length_nil]; try omega; done)) only [go_sem], ?_⟩
  obtain ⟨_, _, hme, m51, m52⟩ := o5.sl
  simp only [Value.slice.injEq] at hme
  obtain ⟨rfl, rfl, rfl⟩ := hme
  rw [← hsn] at o5 hO5 m51 ⊢
  have X5 := X4.step s5 (fun q => hwx _ q rfl)
  have X51 := X5.1
  have X6 := X5.set (i := 1) (v := .slice a5 ((a.2.1.take (k + 1)).map constD).length c5) (by simp)
  have s6 := Step.set (S := fun b => b = xb) u5 h5 (b := xb) (o := 1) (.slice a5 ((a.2.1.take (k + 1)).map constD).length c5) rfl (by rw [X5.2.2.2.1]; exact Nat.zero_le _)
  obtain ⟨h6, hh6⟩ : ∃ h6, h6 = hset h5 xb 1 (.slice a5 ((a.2.1.take (k + 1)).map constD).length c5) := ⟨_, rfl⟩
  rw [← hh6] at X6 s6
  simp only [List.set_cons_succ, List.set_cons_zero] at X6
  have o6 := o5.step s6 (fun b q q' => by have := o5.ge q; omega)
  have st6 := (st4.trans s5 (fun b hb q => by have := ow4.ge q; omega)).trans s6 (fun b _ q => .inr q)
  have iw6 := (iw4.mono s5.ge).mono s6.ge
  obtain ⟨nl, hnl⟩ : ∃ nl, nl = ((a.2.1.take (k + 1)).map constD).length := ⟨_, rfl⟩
  rw [← hnl] at o6 X6 hh6 ⊢
  simp (disch := first | omega | (simp only [e_ssz, e_psz, e_hszs, List.length_cons, List.length_nil]; try omega; done)) only [↓reduceIte, go_sem, X5.2.1, X5.2.2.1, ← hh6, e16, e1]
  refine ⟨k + 1, ?_, by omega⟩
  rw [hI]
  refine ⟨u5, .slice a5 nl c5, ?_, ?_, ?_, ?_, hlt, st6, X6, o6, iw6⟩ <;> simp [upd, e1, e14, e15]
def sF : S → S | .seq a _ => a | s => s
def sS : S → S | .seq _ b => b | s => s
def factA : S := sF (sS (sS psFact_S))
def factB : S := sS (sS (sS psFact_S))
theorem fact_cut : psFact_S = .seq (sF psFact_S) (.seq (sF (sS psFact_S)) (.seq factA factB)) := rfl
/-- What Fact answers. -/
def C_pFact (vs : List Value) (h : H) (K : Value → H → Prop) : Prop := ∃ (u : U) (src : List UInt8), vs = [str src] ∧ src.length ≤ 9223372036854775807 ∧ LxG u h ∧
  (∀ e, parseF oneD src = .error e → ∀ u' h', Step S0 u h u' h' → K (.tuple #[.agg #[str [], .slice none 0 0], fltV e]) h') ∧
  (∀ a, parseF oneD src = .ok a → ∀ u' h' w, Step S0 u h u' h' → Own h.size u' h' w (a.2.1.map constD) → K (.tuple #[.agg #[str a.1, w], fltV (0, 0)]) h')
def G_pF : Ctr := fun f vs h K KP => f = 25 ∧ C_guarded vs h K
theorem G_pF_ok : GOk Tryd.prog G_pF := by
  rintro f vs h K KP ⟨rfl, hC⟩; exact psGuarded_ok hC
theorem oneD_ne (bad : Flt) (l : List Tok) (hg : GoodR l bad) (e : Flt) (h : oneD bad l = .error e) : e.1 ≠ 0 := ((one_same hg).1 e h).2
theorem psFact_ok {vs : List Value} {h : H} {K : Value → H → Prop} {KP : List PanicEntry → H → Prop} (hC : C_pFact vs h K) : HCX Tryd.prog 14 vs h K KP := by
  obtain ⟨u, src, rfl, hl, hG, hKE, hKO⟩ := hC
  refine psFact_H G_pF G_pF_ok _ ?_
  have s1 := Step.push0 S0 u h #[str [], .slice none 0 0] 32
  have B1 := Blk.new (u := u) (h := h) [str [], .slice none 0 0] 32
  obtain ⟨h1, hh1⟩ : ∃ h1, h1 = h.push (.cells #[str [], .slice none 0 0] 32) := ⟨_, rfl⟩
  obtain ⟨u1, hu1⟩ : ∃ u1, u1 = ub u h.size 0 := ⟨_, rfl⟩
  have B1' : Blk u1 h1 h.size [str [], .slice none 0 0] := by rw [hu1, hh1]; exact B1
  rw [← hh1, ← hu1] at s1
  clear B1
  have s2 := Step.push0 S0 u1 h1 #[.int .i64 0, .int .i64 0, .int .i64 0] 27
  have B2 := Blk.new (u := u1) (h := h1) [.int .i64 0, .int .i64 0, .int .i64 0] 27
  obtain ⟨h2, hh2⟩ : ∃ h2, h2 = h1.push (.cells #[.int .i64 0, .int .i64 0, .int .i64 0] 27) := ⟨_, rfl⟩
  obtain ⟨u2, hu2⟩ : ∃ u2, u2 = ub u1 h1.size 0 := ⟨_, rfl⟩
  have B2' : Blk u2 h2 h1.size [.int .i64 0, .int .i64 0, .int .i64 0] := by rw [hu2, hh2]; exact B2
  rw [← hh2, ← hu2] at s2
  clear B2
  have s3 := Step.push0 S0 u2 h2 #[str [], .slice none 0 0] 32
  have B3 := Blk.new (u := u2) (h := h2) [str [], .slice none 0 0] 32
  obtain ⟨h3, hh3⟩ : ∃ h3, h3 = h2.push (.cells #[str [], .slice none 0 0] 32) := ⟨_, rfl⟩
  obtain ⟨u3, hu3⟩ : ∃ u3, u3 = ub u2 h2.size 0 := ⟨_, rfl⟩
  have B3' : Blk u3 h3 h2.size [str [], .slice none 0 0] := by rw [hu3, hh3]; exact B3
  rw [← hh3, ← hu3] at s3
  clear B3
  have z1 : h1.size = h.size + 1 := by rw [hh1]; simp
  have z2 : h2.size = h1.size + 1 := by rw [hh2]; simp
  have z3 : h3.size = h2.size + 1 := by rw [hh3]; simp
  have st3 := (s1.trans0 s2).trans0 s3
  have A1 := (B1'.step0 s2).step0 s3
  have A2 := B2'.step0 s3
  obtain ⟨T, hT⟩ : ∃ T : Flt → U → H → Prop, T = fun f uE h' => Step S0 u h uE h' ∧ Blk uE h' h.size [str [], .slice none 0 0] ∧ Blk uE h' h1.size [.int .i64 0, .int .i64 0, .int .i64 0] ∧ h2.size < h'.size ∧
    ((f.1 ≠ 0 ∧ parseF oneD src = .error f) ∨ (f = (0, 0) ∧ ∃ (a : AtomT) (w : Value), parseF oneD src = .ok a ∧ Blk uE h' h2.size [str a.1, w] ∧ Own h3.size uE h' w (a.2.1.map constD))) := ⟨_, rfl⟩
  obtain ⟨M, hM⟩ : ∃ M : Env → H → Prop, M = fun σ' h' => ∃ (f : Flt) (uE : U) (b5 : Nat), σ' 2 = .pointer (some ⟨h.size, 0, none⟩) ∧ σ' 3 = .pointer (some ⟨h1.size, 0, none⟩) ∧ σ' 4 = .pointer (some ⟨h2.size, 0, none⟩) ∧ σ' 5 = .pointer (some ⟨b5, 0, none⟩) ∧ T f uE h' ∧ Blk uE h' b5 [.int .i64 f.1, .int .i64 0, .int .i64 f.2] ∧ h2.size < b5 := ⟨_, rfl⟩
  rw [fact_cut]
  simp (disch := first | omega | (simp only [e_ssz, e_psz, e_hszs, List.length_cons, List.length_nil]; try omega; done)) only [go_sem, sF, sS, psFact_S, psFact_E, ← hh1, ← hh2, ← hh3]
  have cut : ∀ (A B : S) (Q : Post) (σ : Env) (h : H), (∀ R : Env → H → Prop, (∀ σ' h', M σ' h' → R σ' h') → wpS G_pF A (Qseq R Q) σ h) → (∀ σ' h', M σ' h' → wpS G_pF B Q σ' h') → wpS G_pF A (Qseq (wpS G_pF B Q) Q) σ h := fun A B Q σ h k1 k2 => k1 _ k2
  refine cut _ _ _ _ _ ?_ ?_
  · intro R hR
    have fin : ∀ (f : Flt) (uE : U) (hE : H) (σ0 : Env) (Q : Post) (KPx : List PanicEntry → H → Prop), σ0 2 = .pointer (some ⟨h.size, 0, none⟩) → σ0 3 = .pointer (some ⟨h1.size, 0, none⟩) → σ0 4 = .pointer (some ⟨h2.size, 0, none⟩) → T f uE hE →
        wpSts G_pF [St.eff [] (some 5) (F.alloc 27 #[.int .i64 0, .int .i64 0, .int .i64 0]) [] [], St.eff [] none (F.store 3) [E.t 5, E.t 8] []] (Qseq R Q Exit.normal) KPx (updo σ0 (some 8) (fltV f)) hE := by
      intro f uE hE σ0 Q KPx e2 e3 e4 hTf
      obtain ⟨h5, h6, u6, hh5, hh6, B5, B6, s6, hz6⟩ := boxed uE hE [.int .i64 0, .int .i64 0, .int .i64 0] [.int .i64 f.1, .int .i64 0, .int .i64 f.2] 27 rfl
      rw [hT] at hTf
      obtain ⟨st, A1', A2', hz, hres⟩ := hTf
      have B51 := B5.1
      simp only [fltV]
      simp (disch := first | omega | (simp only [e_ssz, e_psz, e_hszs, List.length_cons, List.length_nil]; try omega; done)) only [↓reduceIte, go_sem, ← hh5, ← hh6, B5.2.1, B5.2.2.1]
      apply hR
      rw [hM, hT]
      refine ⟨f, u6, hE.size, by simp [upd, e2], by simp [upd, e3], by simp [upd, e4], by simp [upd], ⟨st.trans0 s6, A1'.step0 s6, A2'.step0 s6, by omega, ?_⟩, B6, hz⟩
      rcases hres with q | ⟨q, a, w, q1, q2, q3⟩
      · exact .inl q
      · exact .inr ⟨q, a, w, q1, q2.step0 s6, q3.step0 s6⟩
    simp (disch := first | omega | (simp only [e_ssz, e_psz, e_hszs, List.length_cons, List.length_nil]; try omega; done)) only [↓reduceIte, go_sem, factA, sF, sS, psFact_S]
    refine effS_call ⟨rfl, u3, src, 35, [.pointer (some ⟨h2.size, 0, none⟩)], fun b => b = h2.size, rfl, hl, hG.mono st3.ge, fun b q => (by omega), fun hlong u4 h4 s4 => ⟨by simp (disch := first | omega | (simp only [e_ssz, e_psz, e_hszs, List.length_cons, List.length_nil]; try omega; done)) only [go_sem], ?_⟩, fun hshort u4 h4 rb fb sl s4 hrb hfb hfr hfl hRd => ?_⟩
    · refine fin (1, 0) u4 h4 _ _ _ (by simp [upd]) (by simp [upd]) (by simp [upd]) ?_
      rw [hT]
      exact ⟨st3.trans0 s4, A1.step0 s4, A2.step0 s4, by have := s4.ge.sz; omega, .inl ⟨(show (1 : Int) ≠ 0 by decide), by unfold parseF; rw [if_pos hlong]⟩⟩
    · have hpf : parseF oneD src = oneD (badF src) (scanF src).1 := by unfold parseF; rw [if_neg (by omega)]
      refine psFactY_ok ⟨u4, rb, h2.size, sl, _, _, rfl, hRd, B3'.step0 s4, by omega, fun e he u5 h5 s5 => ⟨u5, e, rfl, s5.mono (fun b _ q => q), fun u6 h6 s6 => ⟨by simp (disch := first | omega | (simp only [e_ssz, e_psz, e_hszs, List.length_cons, List.length_nil]; try omega; done)) only [go_sem], ?_⟩⟩, fun a ha u5 h5 w v s5 hX ow => ⟨u5, s5.mono (fun b _ q => q), fun u6 h6 s6 => ⟨by simp (disch := first | omega | (simp only [e_ssz, e_psz, e_hszs, List.length_cons, List.length_nil]; try omega; done)) only [go_sem], ?_⟩⟩⟩
      · refine fin e u6 h6 _ _ _ (by simp [upd]) (by simp [upd]) (by simp [upd]) ?_
        rw [hT]
        exact ⟨((st3.trans0 s4).trans s5 (fun b hb q => by omega)).trans s6 (fun b hb q => by omega), ((A1.step0 s4).step s5 (by omega)).step s6 (by omega), ((A2.step0 s4).step s5 (by omega)).step s6 (by omega), by have := s4.ge.sz; have := s5.ge.sz; have := s6.ge.sz; omega, .inl ⟨oneD_ne _ _ (good_src hshort) e he, by rw [hpf]; exact he⟩⟩
      · refine fin (0, 0) u6 h6 _ _ _ (by simp [upd]) (by simp [upd]) (by simp [upd]) ?_
        rw [hT]
        have hz4 := s4.ge.sz
        exact ⟨((st3.trans0 s4).trans s5 (fun b hb q => by omega)).trans s6 (fun b hb q => by omega), ((A1.step0 s4).step s5 (by omega)).step s6 (by omega), ((A2.step0 s4).step s5 (by omega)).step s6 (by omega), by have := s5.ge.sz; have := s6.ge.sz; omega, .inr ⟨rfl, a, w, by rw [hpf]; exact ha, hX.step s6 (by omega), (ow.step s6 (fun b q q' => by have := ow.ge q; omega)).mono hz4⟩⟩
  · intro σ' h' hm
    rw [hM] at hm
    obtain ⟨f, uE, b5, e2, e3, e4, e5, hTf, A5, hb5⟩ := hm
    rw [hT] at hTf
    obtain ⟨st, A1', A2', hz, hres⟩ := hTf
    have A11 := A1'.1
    have A21 := A2'.1
    have A51 := A5.1
    rcases hres with ⟨hf, hp⟩ | ⟨rfl, a, w, hp, X, ow⟩
    · skip
      have A17 := A1'.sets (l := [str [], .slice none 0 0]) rfl
      have s7 := Step.sets (S := fun b => b = h.size) uE h' (b := h.size) (o := 0) [str [], .slice none 0 0] rfl (by rw [A1'.2.2.2.1]; exact Nat.zero_le _) (by rw [A1'.2.1]; exact Nat.le_refl _)
      obtain ⟨h7, hh7⟩ : ∃ h7, h7 = hsets h' h.size 0 [str [], .slice none 0 0] := ⟨_, rfl⟩
      rw [← hh7] at A17 s7
      have A27 := A2'.step s7 (by omega)
      have A57 := A5.step s7 (by omega)
      have A28 := A27.sets (l := [.int .i64 f.1, .int .i64 0, .int .i64 f.2]) rfl
      have s8 := Step.sets (S := fun b => b = h1.size) uE h7 (b := h1.size) (o := 0) [.int .i64 f.1, .int .i64 0, .int .i64 f.2] rfl (by rw [A27.2.2.2.1]; exact Nat.zero_le _) (by rw [A27.2.1]; exact Nat.le_refl _)
      obtain ⟨h8, hh8⟩ : ∃ h8, h8 = hsets h7 h1.size 0 [.int .i64 f.1, .int .i64 0, .int .i64 f.2] := ⟨_, rfl⟩
      rw [← hh8] at A28 s8
      have A18 := A17.step s8 (by omega)
      have st8 := (st.trans s7 (fun b hb q => by omega)).trans s8 (fun b hb q => by omega)
      have A181 := A18.1
      have A281 := A28.1
      have A571 := A57.1
      have A271 := A27.1
      simp (disch := first | omega | (simp only [e_ssz, e_psz, e_hszs, List.length_cons, List.length_nil]; try omega; done)) only [↓reduceIte, go_sem, factB, sS, psFact_S, e2, e3, e5, A5.at, A5.2.1, hf, A1'.2.1, A1'.2.2.1, ← hh7, A57.at, A57.2.1, A27.2.1, A27.2.2.1, ← hh8, A18.at, A18.2.1, A28.at, A28.2.1]
      exact hKE f hp _ _ st8
    · have X1 := X.1
      have A17 := A1'.sets (l := [str a.1, w]) rfl
      have s7 := Step.sets (S := fun b => b = h.size) uE h' (b := h.size) (o := 0) [str a.1, w] rfl (by rw [A1'.2.2.2.1]; exact Nat.zero_le _) (by rw [A1'.2.1]; exact Nat.le_refl _)
      obtain ⟨h7, hh7⟩ : ∃ h7, h7 = hsets h' h.size 0 [str a.1, w] := ⟨_, rfl⟩
      rw [← hh7] at A17 s7
      have A27 := A2'.step s7 (by omega)
      have A57 := A5.step s7 (by omega)
      have A28 := A27.sets (l := [.int .i64 0, .int .i64 0, .int .i64 0]) rfl
      have s8 := Step.sets (S := fun b => b = h1.size) uE h7 (b := h1.size) (o := 0) [.int .i64 0, .int .i64 0, .int .i64 0] rfl (by rw [A27.2.2.2.1]; exact Nat.zero_le _) (by rw [A27.2.1]; exact Nat.le_refl _)
      obtain ⟨h8, hh8⟩ : ∃ h8, h8 = hsets h7 h1.size 0 [.int .i64 0, .int .i64 0, .int .i64 0] := ⟨_, rfl⟩
      rw [← hh8] at A28 s8
      have A18 := A17.step s8 (by omega)
      have st8 := (st.trans s7 (fun b hb q => by omega)).trans s8 (fun b hb q => by omega)
      have A181 := A18.1
      have A281 := A28.1
      have A571 := A57.1
      have A271 := A27.1
      have ow8 := (ow.step s7 (fun b q q' => by have := ow.ge q; omega)).step s8 (fun b q q' => by have := ow.ge q; omega)
      obtain ⟨xa, xc, rfl, n1, n2⟩ := ow.sl
      simp (disch := first | omega | (simp only [e_ssz, e_psz, e_hszs, List.length_cons, List.length_nil]; try omega; done)) only [↓reduceIte, go_sem, factB, sS, psFact_S, e2, e3, e4, e5, A5.at, A5.2.1, A1'.2.1, A1'.2.2.1, X.at, X.2.1, ← hh7, A57.at, A57.2.1, A27.2.1, A27.2.2.1, ← hh8, A18.at, A18.2.1, A28.at, A28.2.1]
      exact hKO a hp _ _ _ st8 (ow8.mono (by omega))
end Go.Proofs.YtlenjlidahnklaaDoor
