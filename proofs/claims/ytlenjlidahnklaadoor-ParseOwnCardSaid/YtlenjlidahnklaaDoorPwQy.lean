/- Query, walked: the closure that reads, and the function. -/
import Derived.Test.YtlenjlidahnklaaDoorPwB
namespace Edict
theorem queryD_err {bad : Flt} {l : List Tok} {e : Flt} (h : bodyD bad [] l = .error e) : queryD bad l = .error e := by unfold queryD; rw [h]
theorem queryD_ok {bad : Flt} {l q : List Tok} {b : List LitT} (h : bodyD bad [] l = .ok (b, q)) : queryD bad l = endD bad b q := by unfold queryD; rw [h]; cases q <;> rfl
theorem queryD_ne (bad : Flt) (l : List Tok) (hg : GoodR l bad) (e : Flt) (h : queryD bad l = .error e) : e.1 ≠ 0 := ((query_same hg).1 e h).2
end Edict
namespace Go.Proofs.YtlenjlidahnklaaDoor
open Go Go.Ev Edict
def C_pQueryY (vs : List Value) (h : H) (K : Value → H → Prop) (KP : List PanicEntry → H → Prop) : Prop := ∃ (u : U) (rb xb : Nat) (sl : Value) (L : List Tok) (bad : Flt), vs = [.pointer (some ⟨rb, 0, none⟩), .pointer (some ⟨xb, 0, none⟩)] ∧ RdB u h rb sl L bad 0 ∧ Blk u h xb [.slice none 0 0] ∧ xb ≠ rb ∧
  (∀ e, queryD bad L = .error e → ∀ u' h', Step (fun b => b = rb ∨ b = xb) u h u' h' → KP (gu e) h') ∧
  (∀ l : List LitG, queryD bad L = .ok (l.map pL) → ∀ u' h' w v, Step (fun b => b = rb ∨ b = xb) u h u' h' → Blk u' h' xb [w] → OwnG h.size u' h' w l → K v h')
def G_pQY : Ctr := fun f vs h K KP => (f = 31 ∧ C_pBody vs h K KP) ∨ (f = 32 ∧ C_pTake vs h K KP)
theorem G_pQY_ok : GOk Tryd.prog G_pQY := by
  rintro f vs h K KP (⟨rfl, hC⟩ | ⟨rfl, hC⟩)
  · exact psBody_ok hC
  · exact psTake_ok hC
theorem psQueryY_ok {vs : List Value} {h : H} {K : Value → H → Prop} {KP : List PanicEntry → H → Prop} (hC : C_pQueryY vs h K KP) : HCX Tryd.prog 30 vs h K KP := by
  obtain ⟨u, rb, xb, sl, L, bad, rfl, hR, hX, hxr, hKE, hKO⟩ := hC
  refine psQueryY_H G_pQY G_pQY_ok _ _ ?_
  have hrb := hR.1.1
  have hxb := hX.1
  have hLl := hR.2.2.2
  simp (disch := first | omega | (simp only [e_ssz, e_psz, e_hszs, List.length_cons, List.length_nil]; try omega; done)) only [↓reduceIte, go_sem, psQueryY_S, psQueryY_E]
  have up : ∀ {u1 : U} {h1 : H} {u' : U} {h' : H}, Step (fun b => b = rb) u1 h1 u' h' → Step (fun b => b = rb ∨ b = xb) u1 h1 u' h' := fun s => s.mono (fun _ _ q => .inl q)
  refine effS_call (.inl ⟨rfl, u, rb, sl, L, bad, 0, rfl, hR, fun e he u2 h2 s2 => ?_, fun a q ha u2 h2 w i2 s2 hR2 hd2 o2 => ⟨by simp (disch := first | omega | (simp only [e_ssz, e_psz, e_hszs, List.length_cons, List.length_nil]; try omega; done)) only [go_sem], ?_⟩⟩)
  · exact hKE e (queryD_err (by rw [List.drop_zero] at he; exact he)) _ _ (up s2)
  rw [List.drop_zero] at ha
  rw [queryD_ok ha] at hKE hKO
  clear ha
  have hX2 := hX.step s2 hxr
  have hz2 : h.size ≤ h2.size := s2.ge.sz
  have X3 := hX2.set (i := 0) (v := w) (by simp)
  have s3 := Step.set (S := fun b => b = rb ∨ b = xb) u2 h2 (b := xb) (o := 0) w (.inr rfl) (by rw [hX2.2.2.2.1]; exact Nat.zero_le _)
  obtain ⟨h3, hh3⟩ : ∃ h3, h3 = hset h2 xb 0 w := ⟨_, rfl⟩
  have s3' : Step (fun b => b = xb) u2 h2 u2 h3 := by rw [hh3]; exact Step.set (S := fun b => b = xb) u2 h2 (b := xb) (o := 0) w rfl (by rw [hX2.2.2.2.1]; exact Nat.zero_le _)
  rw [← hh3] at X3 s3
  simp only [List.set_cons_zero] at X3
  have hX21 := hX2.1
  have R3 := hR2.step s3' (fun q => hxr q.symm)
  have o3 := o2.step s3' (fun b q q' => by have := o2.ge q; omega)
  have st3 := (up s2).trans s3 (fun b _ q => q)
  obtain ⟨wa, wc, rfl, m1, m2⟩ := o2.sl
  simp (disch := first | omega | (simp only [e_ssz, e_psz, e_hszs, List.length_cons, List.length_nil]; try omega; done)) only [↓reduceIte, go_sem, hX2.2.1, hX2.2.2.1, ← hh3]
  refine effS_call (.inr ⟨rfl, u2, rb, sl, L, bad, i2, 0, rfl, R3, fun u5 h5 s5 hd => ?_, fun u5 h5 t r s5 hd hk => ?_, fun u5 h5 t r s5 hd hk _ => ⟨by simp (disch := first | omega | (simp only [e_ssz, e_psz, e_hszs, List.length_cons, List.length_nil]; try omega; done)) only [go_sem], ?_⟩, fun u5 h5 t r s5 hd hk h0 => absurd rfl h0⟩)
  · rw [hd2] at hd; subst hd
    exact hKE bad rfl _ _ (st3.trans0 s5)
  · rw [hd2] at hd; subst hd
    exact hKE _ (endD_no hk) _ _ (st3.trans0 s5)
  rw [hd2] at hd; subst hd
  have hK := hKO a (endD_ok hk)
  simp (disch := first | omega | (simp only [e_ssz, e_psz, e_hszs, List.length_cons, List.length_nil]; try omega; done)) only [go_sem]
  exact hK _ _ _ _ (st3.trans0 s5) (X3.step0 s5) (o3.step0 s5)
def pQueryA : S := sF (sS (sS psQuery_S))
def pQueryB : S := sS (sS (sS psQuery_S))
theorem pQuery_cut : psQuery_S = .seq (sF psQuery_S) (.seq (sF (sS psQuery_S)) (.seq pQueryA pQueryB)) := rfl
def C_pQuery (vs : List Value) (h : H) (K : Value → H → Prop) : Prop := ∃ (u : U) (src : List UInt8), vs = [str src] ∧ src.length ≤ 9223372036854775807 ∧ LxG u h ∧
  (∀ e, parseF queryD src = .error e → ∀ u' h', Step S0 u h u' h' → K (.tuple #[.slice none 0 0, fltV e]) h') ∧
  (∀ l : List LitG, parseF queryD src = .ok (l.map pL) → ∀ u' h' w, Step S0 u h u' h' → OwnG h.size u' h' w l → K (.tuple #[w, fltV (0, 0)]) h')
def G_pQuery : Ctr := fun f vs h K KP => f = 25 ∧ C_guarded vs h K
theorem G_pQuery_ok : GOk Tryd.prog G_pQuery := by
  rintro f vs h K KP ⟨rfl, hC⟩; exact psGuarded_ok hC
theorem psQuery_ok {vs : List Value} {h : H} {K : Value → H → Prop} {KP : List PanicEntry → H → Prop} (hC : C_pQuery vs h K) : HCX Tryd.prog 12 vs h K KP := by
  obtain ⟨u, src, rfl, hl, hG, hKE, hKO⟩ := hC
  refine psQuery_H G_pQuery G_pQuery_ok _ ?_
  have s1 := Step.push0 S0 u h #[.int .i64 0, .int .i64 0, .int .i64 0] 27
  have B1 := Blk.new (u := u) (h := h) [.int .i64 0, .int .i64 0, .int .i64 0] 27
  obtain ⟨h1, hh1⟩ : ∃ h1, h1 = h.push (.cells #[.int .i64 0, .int .i64 0, .int .i64 0] 27) := ⟨_, rfl⟩
  obtain ⟨u1, hu1⟩ : ∃ u1, u1 = ub u h.size 0 := ⟨_, rfl⟩
  have B1' : Blk u1 h1 h.size [.int .i64 0, .int .i64 0, .int .i64 0] := by rw [hu1, hh1]; exact B1
  rw [← hh1, ← hu1] at s1
  clear B1
  have s2 := Step.push0 S0 u1 h1 #[.slice none 0 0] 28
  have B2 := Blk.new (u := u1) (h := h1) [.slice none 0 0] 28
  obtain ⟨h2, hh2⟩ : ∃ h2, h2 = h1.push (.cells #[.slice none 0 0] 28) := ⟨_, rfl⟩
  obtain ⟨u2, hu2⟩ : ∃ u2, u2 = ub u1 h1.size 0 := ⟨_, rfl⟩
  have B2' : Blk u2 h2 h1.size [.slice none 0 0] := by rw [hu2, hh2]; exact B2
  rw [← hh2, ← hu2] at s2
  clear B2
  have z1 : h1.size = h.size + 1 := by rw [hh1]; simp
  have z2 : h2.size = h1.size + 1 := by rw [hh2]; simp
  have st2 := s1.trans0 s2
  have A1 := B1'.step0 s2
  obtain ⟨T, hT⟩ : ∃ T : Flt → U → H → Prop, T = fun f uE h' => Step S0 u h uE h' ∧ Blk uE h' h.size [.int .i64 0, .int .i64 0, .int .i64 0] ∧ h1.size < h'.size ∧
    ((f.1 ≠ 0 ∧ parseF queryD src = .error f) ∨ (f = (0, 0) ∧ ∃ (l : List LitG) (w : Value), parseF queryD src = .ok (l.map pL) ∧ Blk uE h' h1.size [w] ∧ OwnG h2.size uE h' w l)) := ⟨_, rfl⟩
  obtain ⟨M, hM⟩ : ∃ M : Env → H → Prop, M = fun σ' h' => ∃ (f : Flt) (uE : U) (b5 : Nat), σ' 3 = .pointer (some ⟨h.size, 0, none⟩) ∧ σ' 4 = .pointer (some ⟨h1.size, 0, none⟩) ∧ σ' 5 = .pointer (some ⟨b5, 0, none⟩) ∧ T f uE h' ∧ Blk uE h' b5 [.int .i64 f.1, .int .i64 0, .int .i64 f.2] ∧ h1.size < b5 := ⟨_, rfl⟩
  rw [pQuery_cut]
  simp (disch := first | omega | (simp only [e_ssz, e_psz, e_hszs, List.length_cons, List.length_nil]; try omega; done)) only [go_sem, sF, sS, psQuery_S, psQuery_E, ← hh1, ← hh2]
  have cut : ∀ (A B : S) (Q : Post) (σ : Env) (h : H), (∀ R : Env → H → Prop, (∀ σ' h', M σ' h' → R σ' h') → wpS G_pQuery A (Qseq R Q) σ h) → (∀ σ' h', M σ' h' → wpS G_pQuery B Q σ' h') → wpS G_pQuery A (Qseq (wpS G_pQuery B Q) Q) σ h := fun A B Q σ h k1 k2 => k1 _ k2
  refine cut _ _ _ _ _ ?_ ?_
  · intro R hR
    have fin : ∀ (f : Flt) (uE : U) (hE : H) (σ0 : Env) (Q : Post) (KPx : List PanicEntry → H → Prop), σ0 3 = .pointer (some ⟨h.size, 0, none⟩) → σ0 4 = .pointer (some ⟨h1.size, 0, none⟩) → T f uE hE →
        wpSts G_pQuery [St.eff [] (some 5) (F.alloc 27 #[.int .i64 0, .int .i64 0, .int .i64 0]) [] [], St.eff [] none (F.store 3) [E.t 5, E.t 8] []] (Qseq R Q Exit.normal) KPx (updo σ0 (some 8) (fltV f)) hE := by
      intro f uE hE σ0 Q KPx e3 e4 hTf
      obtain ⟨h5, h6, u6, hh5, hh6, B5, B6, s6, hz6⟩ := boxed uE hE [.int .i64 0, .int .i64 0, .int .i64 0] [.int .i64 f.1, .int .i64 0, .int .i64 f.2] 27 rfl
      rw [hT] at hTf
      obtain ⟨st, A1', hz, hres⟩ := hTf
      have B51 := B5.1
      simp only [fltV]
      simp (disch := first | omega | (simp only [e_ssz, e_psz, e_hszs, List.length_cons, List.length_nil]; try omega; done)) only [↓reduceIte, go_sem, ← hh5, ← hh6, B5.2.1, B5.2.2.1]
      apply hR
      rw [hM, hT]
      refine ⟨f, u6, hE.size, by simp [upd, e3], by simp [upd, e4], by simp [upd], ⟨st.trans0 s6, A1'.step0 s6, by omega, ?_⟩, B6, hz⟩
      rcases hres with q | ⟨q, a, w, q1, q2, q3⟩
      · exact .inl q
      · exact .inr ⟨q, a, w, q1, q2.step0 s6, q3.step0 s6⟩
    simp (disch := first | omega | (simp only [e_ssz, e_psz, e_hszs, List.length_cons, List.length_nil]; try omega; done)) only [↓reduceIte, go_sem, pQueryA, sF, sS, psQuery_S]
    refine effS_call ⟨rfl, u2, src, 30, [.pointer (some ⟨h1.size, 0, none⟩)], fun b => b = h1.size, rfl, hl, hG.mono st2.ge, fun b q => (by omega), fun hlong u4 h4 s4 => ⟨by simp (disch := first | omega | (simp only [e_ssz, e_psz, e_hszs, List.length_cons, List.length_nil]; try omega; done)) only [go_sem], ?_⟩, fun hshort u4 h4 rb fb sl s4 hrb hfb hfr hfl hRd => ?_⟩
    · refine fin (1, 0) u4 h4 _ _ _ (by simp [upd]) (by simp [upd]) ?_
      rw [hT]
      exact ⟨st2.trans0 s4, A1.step0 s4, by have := s4.ge.sz; omega, .inl ⟨(show (1 : Int) ≠ 0 by decide), by unfold parseF; rw [if_pos hlong]⟩⟩
    · have hpf : parseF queryD src = queryD (badF src) (scanF src).1 := by unfold parseF; rw [if_neg (by omega)]
      refine psQueryY_ok ⟨u4, rb, h1.size, sl, _, _, rfl, hRd, B2'.step0 s4, by omega, fun e he u5 h5 s5 => ⟨u5, e, rfl, s5.mono (fun b _ q => q), fun u6 h6 s6 => ⟨by simp (disch := first | omega | (simp only [e_ssz, e_psz, e_hszs, List.length_cons, List.length_nil]; try omega; done)) only [go_sem], ?_⟩⟩, fun a ha u5 h5 w v s5 hX ow => ⟨u5, s5.mono (fun b _ q => q), fun u6 h6 s6 => ⟨by simp (disch := first | omega | (simp only [e_ssz, e_psz, e_hszs, List.length_cons, List.length_nil]; try omega; done)) only [go_sem], ?_⟩⟩⟩
      · refine fin e u6 h6 _ _ _ (by simp [upd]) (by simp [upd]) ?_
        rw [hT]
        exact ⟨((st2.trans0 s4).trans s5 (fun b hb q => by omega)).trans s6 (fun b hb q => by omega), ((A1.step0 s4).step s5 (by omega)).step s6 (by omega), by have := s4.ge.sz; have := s5.ge.sz; have := s6.ge.sz; omega, .inl ⟨queryD_ne _ _ (good_src hshort) e he, by rw [hpf]; exact he⟩⟩
      · refine fin (0, 0) u6 h6 _ _ _ (by simp [upd]) (by simp [upd]) ?_
        rw [hT]
        have hz4 := s4.ge.sz
        exact ⟨((st2.trans0 s4).trans s5 (fun b hb q => by omega)).trans s6 (fun b hb q => by omega), ((A1.step0 s4).step s5 (by omega)).step s6 (by omega), by have := s5.ge.sz; have := s6.ge.sz; omega, .inr ⟨rfl, a, w, by rw [hpf]; exact ha, hX.step s6 (by omega), (ow.step s6 (fun b q q' => by have := ow.ge q; omega)).mono hz4⟩⟩
  · intro σ' h' hm
    rw [hM] at hm
    obtain ⟨f, uE, b5, e3, e4, e5, hTf, A5, hb5⟩ := hm
    rw [hT] at hTf
    obtain ⟨st, A1', hz, hres⟩ := hTf
    have A11 := A1'.1
    have A51 := A5.1
    have w1 := A1'.sets (l := [.int .i64 f.1, .int .i64 0, .int .i64 f.2]) rfl
    have s7 := Step.sets (S := fun b => b = h.size) uE h' (b := h.size) (o := 0) [.int .i64 f.1, .int .i64 0, .int .i64 f.2] rfl (by rw [A1'.2.2.2.1]; exact Nat.zero_le _) (by rw [A1'.2.1]; exact Nat.le_refl _)
    have st8 := st.trans s7 (fun b hb q => by omega)
    rcases hres with ⟨hf, hp⟩ | ⟨rfl, a, w, hp, X, ow⟩
    · have hK' := hKE f hp _ _ st8
      simp only [fltV] at hK'
      simp (disch := first | omega | (simp only [e_ssz, e_psz, e_hszs, List.length_cons, List.length_nil]; try omega; done)) only [↓reduceIte, go_sem, pQueryB, sS, psQuery_S, e3, e5, A5.at, A5.2.1, hf, A1'.2.1, A1'.2.2.1, w1.at, w1.2.1]
      exact hK'
    · have X1 := X.1
      have hK' := hKO a hp _ _ _ st8 ((ow.step s7 (fun b q q' => by have := ow.ge q; omega)).mono (by omega))
      simp only [fltV] at hK'
      obtain ⟨xa, xc, rfl, n1, n2⟩ := ow.sl
      simp (disch := first | omega | (simp only [e_ssz, e_psz, e_hszs, List.length_cons, List.length_nil]; try omega; done)) only [↓reduceIte, go_sem, pQueryB, sS, psQuery_S, e3, e4, e5, A5.at, A5.2.1, A1'.2.1, A1'.2.2.1, X.at, X.2.1, w1.at, w1.2.1]
      exact hK'
end Go.Proofs.YtlenjlidahnklaaDoor
