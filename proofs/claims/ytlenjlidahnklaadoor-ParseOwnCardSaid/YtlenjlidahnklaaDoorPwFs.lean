/- Facts, walked: the closure that reads, and the function. -/
import Derived.Test.YtlenjlidahnklaaDoorPwL
namespace Go.Ev
open Go Rep Edict
theorem rep_atom {u : U} {h : H} {x : AtomT} {cs : List Value} : rep u h x cs = (∃ v, cs = [str x.1, v, .int .i64 x.2.2] ∧ IsSl u h v x.2.1) := by
  apply propext
  obtain ⟨p, l, o⟩ := x
  simp only [rep_prod, rep_str, rep_int, rep_list]
  constructor
  · rintro ⟨a, b, rfl, rfl, c, d, rfl, ⟨v, rfl, hv⟩, rfl⟩
    exact ⟨v, rfl, hv⟩
  · rintro ⟨v, rfl, hv⟩
    exact ⟨_, _, rfl, rfl, _, _, rfl, ⟨v, rfl, hv⟩, rfl⟩
theorem sz_atom : sz AtomT = 3 := rfl
theorem rep_atomG {u : U} {h : H} {x : AtomG} {cs : List Value} : rep u h x cs = (∃ v, cs = [str x.1, v, .int .i64 x.2.2] ∧ rep u h x.2.1 [v]) := by
  apply propext
  obtain ⟨p, g, o⟩ := x
  rw [rep_prod]
  simp only [rep_prod (α := SlG TermT), rep_str, rep_int]
  constructor
  · rintro ⟨a, b, rfl, rfl, c, d, rfl, hg, rfl⟩
    obtain ⟨v, rfl, hv⟩ := hg
    exact ⟨v, rfl, v, rfl, hv⟩
  · rintro ⟨v, rfl, hg⟩
    exact ⟨_, _, rfl, rfl, _, _, rfl, hg, rfl⟩
theorem sz_atomG : sz AtomG = 3 := rfl
theorem tags_at (a : AtomG) : HasTags.tags a = HasTags.tags a.2.1 := by show [] ++ (HasTags.tags a.2.1 ++ []) = _; simp
end Go.Ev
namespace Edict
theorem factD1_err {bad : Flt} {l : List Tok} {e : Flt} (h : atomD bad false l = .error e) : factD1 bad l = .error e := by unfold factD1; rw [h]
/-- What stands behind a fact. -/
def dotD {α : Type} (bad : Flt) (x : α) : List Tok → PR α
  | [] => .error bad
  | c :: r => if tK c = 8 then .ok (x, r) else .error (refuseD c)
theorem factD1_ok {bad : Flt} {l q : List Tok} {a : AtomT} (h : atomD bad false l = .ok (a, q)) : factD1 bad l = dotD bad a q := by unfold factD1; rw [h]; cases q <;> rfl
theorem dotD_no {α : Type} {bad : Flt} {x : α} {t : Tok} {r : List Tok} (h : tK t ≠ 8) : dotD bad x (t :: r) = .error (refuseD t) := by show (if tK t = 8 then _ else _) = _; rw [if_neg h]
theorem dotD_ok {α : Type} {bad : Flt} {x : α} {t : Tok} {r : List Tok} (h : tK t = 8) : dotD bad x (t :: r) = .ok (x, r) := by show (if tK t = 8 then _ else _) = _; rw [if_pos h]
theorem factsD_nil {bad : Flt} {acc : List AtomT} : factsD bad acc [] = .error bad := by unfold factsD; exact allD_nil
theorem factsD_end {bad : Flt} {acc : List AtomT} {t : Tok} {l : List Tok} (h : tK t = 0) : factsD bad acc (t :: l) = .ok acc := by unfold factsD; exact allD_end h
theorem factsD_full {bad : Flt} {acc : List AtomT} {t : Tok} {l : List Tok} (h0 : tK t ≠ 0) (h : 4096 ≤ acc.length ∧ tK t = 1) : factsD bad acc (t :: l) = .error (stopD 24 t) := by unfold factsD; exact allD_full h0 h
theorem factsD_err {bad : Flt} {acc : List AtomT} {t : Tok} {l : List Tok} {e : Flt} (h0 : tK t ≠ 0) (h : ¬ (4096 ≤ acc.length ∧ tK t = 1)) (he : factD1 bad (t :: l) = .error e) : factsD bad acc (t :: l) = .error e := by unfold factsD; exact allD_err h0 h he
theorem factsD_on {bad : Flt} {acc : List AtomT} {t : Tok} {l : List Tok} {x : AtomT} {q : List Tok} (h0 : tK t ≠ 0) (h : ¬ (4096 ≤ acc.length ∧ tK t = 1)) (he : factD1 bad (t :: l) = .ok (x, q)) : factsD bad acc (t :: l) = factsD bad (acc ++ [x]) q := by unfold factsD; exact allD_on h0 h he
theorem factsD_ne (bad : Flt) (l : List Tok) (hg : GoodR l bad) (e : Flt) (h : factsD bad [] l = .error e) : e.1 ≠ 0 := ((facts_same hg).1 e h).2
end Edict
namespace Go.Proofs.YtlenjlidahnklaaDoor
open Go Go.Ev Edict
def C_pFactsY (vs : List Value) (h : H) (K : Value → H → Prop) (KP : List PanicEntry → H → Prop) : Prop := ∃ (u : U) (rb xb : Nat) (sl : Value) (L : List Tok) (bad : Flt), vs = [.pointer (some ⟨rb, 0, none⟩), .pointer (some ⟨xb, 0, none⟩)] ∧ RdB u h rb sl L bad 0 ∧ Blk u h xb [.slice none 0 0] ∧ xb ≠ rb ∧
  (∀ e, factsD bad [] L = .error e → ∀ u' h', Step (fun b => b = rb ∨ b = xb) u h u' h' → KP (gu e) h') ∧
  (∀ l : List AtomG, factsD bad [] L = .ok (l.map pA) → ∀ u' h' w v, Step (fun b => b = rb ∨ b = xb) u h u' h' → Blk u' h' xb [w] → OwnG h.size u' h' w l → K v h')
def G_pFsY : Ctr := fun f vs h K KP => (f = 27 ∧ C_pPeek vs h K KP) ∨ (f = 28 ∧ C_pStop vs h KP) ∨ (f = 34 ∧ C_pAtom vs h K KP) ∨ (f = 32 ∧ C_pTake vs h K KP)
theorem G_pFsY_ok : GOk Tryd.prog G_pFsY := by
  rintro f vs h K KP (⟨rfl, hC⟩ | ⟨rfl, hC⟩ | ⟨rfl, hC⟩ | ⟨rfl, hC⟩)
  · exact psPeek_ok hC
  · exact psStop_ok hC
  · exact psAtom_ok hC
  · exact psTake_ok hC
theorem psFactsY_ok {vs : List Value} {h : H} {K : Value → H → Prop} {KP : List PanicEntry → H → Prop} (hC : C_pFactsY vs h K KP) : HCX Tryd.prog 33 vs h K KP := by
  obtain ⟨u, rb, xb, sl, L, bad, rfl, hR, hX, hxr, hKE, hKO⟩ := hC
  refine psFactsY_H G_pFsY G_pFsY_ok _ _ ?_
  have hrb := hR.1.1
  have hxb := hX.1
  have hLl := hR.2.2.2
  have up : ∀ {u1 : U} {h1 : H} {u' : U} {h' : H}, Step (fun b => b = rb) u1 h1 u' h' → Step (fun b => b = rb ∨ b = xb) u1 h1 u' h' := fun s => s.mono (fun _ _ q => .inl q)
  obtain ⟨R, hRR⟩ : ∃ R, factsD bad [] L = R := ⟨_, rfl⟩
  rw [hRR] at hKE hKO
  simp (disch := first | omega | (simp only [e_ssz, e_psz, e_hszs, List.length_cons, List.length_nil]; try omega; done)) only [go_sem, psFactsY_S, psFactsY_E]
  obtain ⟨I, hI⟩ : ∃ I : Nat → Env → H → Prop, I = fun j σ h' => ∃ (u' : U) (w : Value) (acc : List AtomG), σ 0 = .pointer (some ⟨rb, 0, none⟩) ∧ σ 1 = .pointer (some ⟨xb, 0, none⟩) ∧ Step (fun b => b = rb ∨ b = xb) u h u' h' ∧ RdB u' h' rb sl L bad j ∧ Blk u' h' xb [w] ∧ OwnG h.size u' h' w acc ∧ acc.length ≤ 4096 ∧ factsD bad (acc.map pA) (L.drop j) = R := ⟨_, rfl⟩
  refine wpS_loop I (fun j => L.length - j) 0 (by rw [hI]; exact ⟨u, _, [], by simp [upd], by simp [upd], Step.refl _ _ _, hR, hX, .nil _ _ _, by simp, by rw [List.drop_zero]; exact hRR⟩) ?_
  clear hRR
  intro j σ h' hy
  rw [hI] at hy
  obtain ⟨u', w, acc, e0, e1, st, hRj, X, ow, hacc, hA⟩ := hy
  obtain ⟨wa, wc, rfl, m1, m2⟩ := ow.sl
  obtain ⟨ap, hap⟩ : ∃ ap, ap = acc.map pA := ⟨_, rfl⟩
  have hapl : ap.length = acc.length := by rw [hap, List.length_map]
  rw [← hap] at hA
  have hX1 := X.1
  have hz := st.ge.sz
  simp (disch := first | omega | (simp only [e_ssz, e_psz, e_hszs, List.length_cons, List.length_nil]; try omega; done)) only [go_sem, psFactsY_L1, e0]
  refine effS_call (.inl ⟨rfl, u', rb, sl, L, bad, j, rfl, hRj, fun u2 h2 s2 => ⟨fun hd => ?_, fun t r hd => ⟨by simp (disch := first | omega | (simp only [e_ssz, e_psz, e_hszs, List.length_cons, List.length_nil]; try omega; done)) only [go_sem], ?_⟩⟩⟩)
  · rw [hd, factsD_nil] at hA
    exact hKE _ hA.symm _ _ (st.trans0 s2)
  have hR2 := hRj.step0 s2
  have X2 := X.step0 s2
  have ow2 := ow.step0 s2
  have st2 := st.trans0 s2
  have hX2 := X2.1
  rw [hd] at hA
  simp only [tokE]
  by_cases h0 : t.1 = 0
  · rw [factsD_end (show tK t = 0 from h0)] at hA
    simp (disch := first | omega | (simp only [e_ssz, e_psz, e_hszs, List.length_cons, List.length_nil]; try omega; done)) only [↓reduceIte, go_sem, eq_true h0]
    rw [hap] at hA
    exact hKO _ hA.symm _ _ _ _ st2 X2 ow2
  have h0' : tK t ≠ 0 := h0
  have hwr : ∀ b, OwnB (.slice wa acc.length wc) b → b ≠ rb ∧ b ≠ xb := fun b q => by have := ow.ge q; omega
  -- a fact, from here
  obtain ⟨M, hM⟩ : ∃ M : Env → H → Prop, M = fun σ' h' => ∃ (u3 : U), σ' 0 = .pointer (some ⟨rb, 0, none⟩) ∧ σ' 1 = .pointer (some ⟨xb, 0, none⟩) ∧ Step S0 u2 h2 u3 h' := ⟨_, rfl⟩
  by_cases hfull : 4096 ≤ acc.length
  · simp (disch := first | omega | (simp only [e_ssz, e_psz, e_hszs, List.length_cons, List.length_nil]; try omega; done)) only [↓reduceIte, go_sem, eq_false h0, e0, e1, X2.at, X2.2.1, eq_true (show (4096 : Int) ≤ (acc.length : Nat) by omega)]
    refine effS_call (.inl ⟨rfl, u2, rb, sl, L, bad, j, rfl, hR2, fun u3 h3 s3 => ⟨fun q => (hd_no hd q).elim, fun t' r' hd' => ⟨by simp (disch := first | omega | (simp only [e_ssz, e_psz, e_hszs, List.length_cons, List.length_nil]; try omega; done)) only [go_sem], ?_⟩⟩⟩)
    obtain ⟨rfl, rfl⟩ := hd_eq hd hd'
    have hR3 := hR2.step0 s3
    have st3 := st2.trans0 s3
    have X3 := X2.step0 s3
    have hX3 := X3.1
    simp only [tokE]
    by_cases h1 : t.1 = 1
    · rw [factsD_full h0' ⟨by omega, h1⟩] at hA
      simp (disch := first | omega | (simp only [e_ssz, e_psz, e_hszs, List.length_cons, List.length_nil]; try omega; done)) only [↓reduceIte, go_sem, eq_true h1, e0]
      exact effS_call (.inr (.inl ⟨rfl, u3, rb, sl, L, bad, j, 24, rfl, hR3, fun u5 h5 s5 => ⟨fun q => (hd_no hd q).elim, fun t' r' hd' => (by obtain ⟨rfl, rfl⟩ := hd_eq hd hd'; exact hKE _ hA.symm _ _ (st3.trans0 s5))⟩⟩))
    · rw [factsD_err h0' (fun q => h1 q.2) (factD1_err (atomD_no (show tK t ≠ 1 from h1)))] at hA
      simp (disch := first | omega | (simp only [e_ssz, e_psz, e_hszs, List.length_cons, List.length_nil]; try omega; done)) only [↓reduceIte, go_sem, eq_false h1, e0, e1, X3.at, X3.2.1]
      refine effS_call (.inr (.inr (.inl ⟨rfl, u3, rb, sl, L, bad, j, false, rfl, hR3, fun e he u5 h5 s5 => ?_, fun a q ha => ?_⟩)))
      · rw [hd, atomD_no (show tK t ≠ 1 from h1)] at he
        cases he
        exact hKE _ hA.symm _ _ (st3.trans (up s5) (fun _ _ q => q))
      · rw [hd, atomD_no (show tK t ≠ 1 from h1)] at ha
        cases ha
  · have hnf : ¬ (4096 ≤ ap.length ∧ tK t = 1) := fun q => hfull (by have := q.1; omega)
    simp (disch := first | omega | (simp only [e_ssz, e_psz, e_hszs, List.length_cons, List.length_nil]; try omega; done)) only [↓reduceIte, go_sem, eq_false h0, e0, e1, X2.at, X2.2.1, eq_false (show ¬ (4096 : Int) ≤ (acc.length : Nat) by omega)]
    refine effS_call (.inr (.inr (.inl ⟨rfl, u2, rb, sl, L, bad, j, false, rfl, hR2, fun e he u5 h5 s5 => ?_, fun a q ha u3 h3 w3 i3 s3 hR3 hd3 o3 => ?_⟩)))
    · rw [hd] at he
      rw [factsD_err h0' hnf (factD1_err he)] at hA
      exact hKE _ hA.symm _ _ (st2.trans (up s5) (fun _ _ q => q))
    rw [hd] at ha
    have hlen3 := atomD_len ha
    have X3 := X2.step s3 hxr
    have ow3 := ow2.step s3 (fun b q q' => (hwr b q).1 q')
    have st3 := st2.trans (up s3) (fun _ _ q => q)
    have hX3 := X3.1
    have hz3 := st3.ge.sz
    refine ⟨by simp (disch := first | omega | (simp only [e_ssz, e_psz, e_hszs, List.length_cons, List.length_nil]; try omega; done)) only [↓reduceIte, go_sem, e1, X2.at, X3.at, X3.2.1], ?_⟩
    obtain ⟨w3a, w3c, rfl, k1, k2⟩ := o3.sl
    obtain ⟨ga, hga, rga, tga⟩ := (o3.toG tags_term (by have := atomD_le ha; omega)).box
    have hpg : pA (a.1, ga, a.2.2) = a := by unfold pA; rw [hga]
    have hz23 := s3.ge.sz
    have hz12 := st2.ge.sz
    simp (disch := first | omega | (simp only [e_ssz, e_psz, e_hszs, List.length_cons, List.length_nil]; try omega; done)) only [↓reduceIte, go_sem, e1, X3.at, X3.2.1]
    refine effS_app1g (by simp only []) ow3 (x := (a.1, ga, a.2.2)) ow2.tg (by rw [tags_at]; exact tga) (by omega) (by omega) (by rw [rep_atomG]; exact ⟨_, rfl, rga⟩) rfl rfl (by omega) (by omega) fun a5 n5 c5 u5 h5 o5 s5 hO5 => ⟨by simp (disch := first | omega | (simp only [e_ssz, e_psz, e_hszs, List.length_cons, List.length_nil]; try omega; done)) only [go_sem], ?_⟩
    obtain ⟨_, _, hme, m51, m52⟩ := o5.sl
    simp only [Value.slice.injEq] at hme
    obtain ⟨rfl, rfl, rfl⟩ := hme
    obtain ⟨ac2, hac2⟩ : ∃ ac2 : List AtomG, ac2 = acc ++ [(a.1, ga, a.2.2)] := ⟨_, rfl⟩
    have hap2 : ap ++ [a] = ac2.map pA := by rw [hac2, List.map_append, ← hap, List.map_cons, hpg]; rfl
    have hl2 : ac2.length = acc.length + 1 := by rw [hac2]; simp
    rw [← hac2] at o5 hO5 m51 ⊢
    have X5 := X3.step s5 (fun q => (hwr _ q).2 rfl)
    have hR5 := hR3.step s5 (fun q => (hwr _ q).1 rfl)
    have hX5 := X5.1
    have X6 := X5.set (i := 0) (v := .slice a5 ac2.length c5) (by simp)
    have s6 := Step.set (S := fun b => b = xb) u5 h5 (b := xb) (o := 0) (.slice a5 ac2.length c5) rfl (by rw [X5.2.2.2.1]; exact Nat.zero_le _)
    obtain ⟨h6, hh6⟩ : ∃ h6, h6 = hset h5 xb 0 (.slice a5 ac2.length c5) := ⟨_, rfl⟩
    rw [← hh6] at X6 s6
    simp only [List.set_cons_zero] at X6
    have o6 := o5.step s6 (fun b q q' => by have := o5.ge q; omega)
    have hR6 := hR5.step s6 (fun q => hxr q.symm)
    have st6 := (st3.trans s5 (fun b hb q => by have := ow3.ge q; omega)).trans s6 (fun b _ q => .inr q)
    simp (disch := first | omega | (simp only [e_ssz, e_psz, e_hszs, List.length_cons, List.length_nil]; try omega; done)) only [↓reduceIte, go_sem, X5.2.1, X5.2.2.1, ← hh6, e0, e1]
    refine effS_call (.inr (.inr (.inr ⟨rfl, u5, rb, sl, L, bad, i3, 8, rfl, hR6, fun u7 h7 s7 hd7 => ?_, fun u7 h7 t7 r7 s7 hd7 hk7 => ?_, fun u7 h7 t7 r7 s7 hd7 hk7 q => absurd q (by decide), fun u7 h7 t7 r7 s7 hd7 hk7 _ hR7 => ⟨by simp (disch := first | omega | (simp only [e_ssz, e_psz, e_hszs, List.length_cons, List.length_nil]; try omega; done)) only [go_sem], ?_⟩⟩)))
    · rw [hd3] at hd7; subst hd7
      rw [factsD_err h0' hnf (by rw [factD1_ok ha]; rfl)] at hA
      exact hKE _ hA.symm _ _ (st6.trans0 s7)
    · rw [hd3] at hd7; subst hd7
      rw [factsD_err h0' hnf (by rw [factD1_ok ha]; exact dotD_no hk7)] at hA
      exact hKE _ hA.symm _ _ (st6.trans0 s7)
    rw [hd3] at hd7; subst hd7
    rw [factsD_on h0' hnf (by rw [factD1_ok ha]; exact dotD_ok hk7), hap2] at hA
    have hd8 := drop_cons hd3
    have hjl := drop_cons hd
    have hlt8 : j < i3 + 1 := by
      have e1 : (L.drop i3).length = r7.length + 1 := by rw [hd3]; rfl
      have e2 : (L.drop j).length = r.length + 1 := by rw [hd]; rfl
      rw [List.length_drop] at e1 e2
      simp only [List.length_cons] at hlen3
      omega
    simp (disch := first | omega | (simp only [e_ssz, e_psz, e_hszs, List.length_cons, List.length_nil]; try omega; done)) only [go_sem]
    refine ⟨i3 + 1, ?_, by omega⟩
    rw [hI]
    refine ⟨u7, _, ac2, ?_, ?_, st6.trans (up s7) (fun _ _ q => q), hR7, X6.step s7 hxr, o6.step s7 (fun b q q' => by have := o6.ge q; omega), by omega, by rw [hd8.2.2]; exact hA⟩ <;> simp [upd, e0, e1]
def pFactsA : S := sF (sS (sS psFacts_S))
def pFactsB : S := sS (sS (sS psFacts_S))
theorem pFacts_cut : psFacts_S = .seq (sF psFacts_S) (.seq (sF (sS psFacts_S)) (.seq pFactsA pFactsB)) := rfl
def C_pFacts (vs : List Value) (h : H) (K : Value → H → Prop) : Prop := ∃ (u : U) (src : List UInt8), vs = [str src] ∧ src.length ≤ 9223372036854775807 ∧ LxG u h ∧
  (∀ e, parseF (fun b l => factsD b [] l) src = .error e → ∀ u' h', Step S0 u h u' h' → K (.tuple #[.slice none 0 0, fltV e]) h') ∧
  (∀ l : List AtomG, parseF (fun b l => factsD b [] l) src = .ok (l.map pA) → ∀ u' h' w, Step S0 u h u' h' → OwnG h.size u' h' w l → K (.tuple #[w, fltV (0, 0)]) h')
def G_pFacts : Ctr := fun f vs h K KP => f = 25 ∧ C_guarded vs h K
theorem G_pFacts_ok : GOk Tryd.prog G_pFacts := by
  rintro f vs h K KP ⟨rfl, hC⟩; exact psGuarded_ok hC
theorem psFacts_ok {vs : List Value} {h : H} {K : Value → H → Prop} {KP : List PanicEntry → H → Prop} (hC : C_pFacts vs h K) : HCX Tryd.prog 13 vs h K KP := by
  obtain ⟨u, src, rfl, hl, hG, hKE, hKO⟩ := hC
  refine psFacts_H G_pFacts G_pFacts_ok _ ?_
  have s1 := Step.push0 S0 u h #[.int .i64 0, .int .i64 0, .int .i64 0] 27
  have B1 := Blk.new (u := u) (h := h) [.int .i64 0, .int .i64 0, .int .i64 0] 27
  obtain ⟨h1, hh1⟩ : ∃ h1, h1 = h.push (.cells #[.int .i64 0, .int .i64 0, .int .i64 0] 27) := ⟨_, rfl⟩
  obtain ⟨u1, hu1⟩ : ∃ u1, u1 = ub u h.size 0 := ⟨_, rfl⟩
  have B1' : Blk u1 h1 h.size [.int .i64 0, .int .i64 0, .int .i64 0] := by rw [hu1, hh1]; exact B1
  rw [← hh1, ← hu1] at s1
  clear B1
  have s2 := Step.push0 S0 u1 h1 #[.slice none 0 0] 29
  have B2 := Blk.new (u := u1) (h := h1) [.slice none 0 0] 29
  obtain ⟨h2, hh2⟩ : ∃ h2, h2 = h1.push (.cells #[.slice none 0 0] 29) := ⟨_, rfl⟩
  obtain ⟨u2, hu2⟩ : ∃ u2, u2 = ub u1 h1.size 0 := ⟨_, rfl⟩
  have B2' : Blk u2 h2 h1.size [.slice none 0 0] := by rw [hu2, hh2]; exact B2
  rw [← hh2, ← hu2] at s2
  clear B2
  have z1 : h1.size = h.size + 1 := by rw [hh1]; simp
  have z2 : h2.size = h1.size + 1 := by rw [hh2]; simp
  have st2 := s1.trans0 s2
  have A1 := B1'.step0 s2
  obtain ⟨T, hT⟩ : ∃ T : Flt → U → H → Prop, T = fun f uE h' => Step S0 u h uE h' ∧ Blk uE h' h.size [.int .i64 0, .int .i64 0, .int .i64 0] ∧ h1.size < h'.size ∧
    ((f.1 ≠ 0 ∧ parseF (fun b l => factsD b [] l) src = .error f) ∨ (f = (0, 0) ∧ ∃ (l : List AtomG) (w : Value), parseF (fun b l => factsD b [] l) src = .ok (l.map pA) ∧ Blk uE h' h1.size [w] ∧ OwnG h2.size uE h' w l)) := ⟨_, rfl⟩
  obtain ⟨M, hM⟩ : ∃ M : Env → H → Prop, M = fun σ' h' => ∃ (f : Flt) (uE : U) (b5 : Nat), σ' 3 = .pointer (some ⟨h.size, 0, none⟩) ∧ σ' 4 = .pointer (some ⟨h1.size, 0, none⟩) ∧ σ' 5 = .pointer (some ⟨b5, 0, none⟩) ∧ T f uE h' ∧ Blk uE h' b5 [.int .i64 f.1, .int .i64 0, .int .i64 f.2] ∧ h1.size < b5 := ⟨_, rfl⟩
  rw [pFacts_cut]
  simp (disch := first | omega | (simp only [e_ssz, e_psz, e_hszs, List.length_cons, List.length_nil]; try omega; done)) only [go_sem, sF, sS, psFacts_S, psFacts_E, ← hh1, ← hh2]
  have cut : ∀ (A B : S) (Q : Post) (σ : Env) (h : H), (∀ R : Env → H → Prop, (∀ σ' h', M σ' h' → R σ' h') → wpS G_pFacts A (Qseq R Q) σ h) → (∀ σ' h', M σ' h' → wpS G_pFacts B Q σ' h') → wpS G_pFacts A (Qseq (wpS G_pFacts B Q) Q) σ h := fun A B Q σ h k1 k2 => k1 _ k2
  refine cut _ _ _ _ _ ?_ ?_
  · intro R hR
    have fin : ∀ (f : Flt) (uE : U) (hE : H) (σ0 : Env) (Q : Post) (KPx : List PanicEntry → H → Prop), σ0 3 = .pointer (some ⟨h.size, 0, none⟩) → σ0 4 = .pointer (some ⟨h1.size, 0, none⟩) → T f uE hE →
        wpSts G_pFacts [St.eff [] (some 5) (F.alloc 27 #[.int .i64 0, .int .i64 0, .int .i64 0]) [] [], St.eff [] none (F.store 3) [E.t 5, E.t 8] []] (Qseq R Q Exit.normal) KPx (updo σ0 (some 8) (fltV f)) hE := by
      intro f uE hE σ0 Q KPx e3 e4 hTf
      obtain ⟨h5, h6, u6, hh5, hh6, B5, B6, s6, hz6⟩ := boxed uE hE [.int .i64 0, .int .i64 0, .int .i64 0] [.int .i64 f.1, .int .i64 0, .int .i64 f.2] 27 rfl
      rw [hT] at hTf
      obtain ⟨st, A1', hz, hres⟩ := hTf
      have B51 := B5.1
      simp only [fltV]
      simp (disch := first | omega | (simp only [e_ssz, e_psz, e_hszs, List.length_cons, List.length_nil]; try omega; done)) only [↓reduceIte, go_sem, ← hh5, ← hh6, B5.2.1, B5.2.2.1]
      apply hR
      rw [hM, hT]
      refine ⟨f, u6, hE.size, by simp [upd, e3], by simp [upd, e4], by simp [upd], ⟨st.trans0 s6, A1'.step0 s6, by omega, ?_⟩, B6, hz⟩
      rcases hres with q | ⟨q, a, w, q1, q2, q3⟩
      · exact .inl q
      · exact .inr ⟨q, a, w, q1, q2.step0 s6, q3.step0 s6⟩
    simp (disch := first | omega | (simp only [e_ssz, e_psz, e_hszs, List.length_cons, List.length_nil]; try omega; done)) only [↓reduceIte, go_sem, pFactsA, sF, sS, psFacts_S]
    refine effS_call ⟨rfl, u2, src, 33, [.pointer (some ⟨h1.size, 0, none⟩)], fun b => b = h1.size, rfl, hl, hG.mono st2.ge, fun b q => (by omega), fun hlong u4 h4 s4 => ⟨by simp (disch := first | omega | (simp only [e_ssz, e_psz, e_hszs, List.length_cons, List.length_nil]; try omega; done)) only [go_sem], ?_⟩, fun hshort u4 h4 rb fb sl s4 hrb hfb hfr hfl hRd => ?_⟩
    · refine fin (1, 0) u4 h4 _ _ _ (by simp [upd]) (by simp [upd]) ?_
      rw [hT]
      exact ⟨st2.trans0 s4, A1.step0 s4, by have := s4.ge.sz; omega, .inl ⟨(show (1 : Int) ≠ 0 by decide), by unfold parseF; rw [if_pos hlong]⟩⟩
    · have hpf : parseF (fun b l => factsD b [] l) src = (fun b l => factsD b [] l) (badF src) (scanF src).1 := by unfold parseF; rw [if_neg (by omega)]
      refine psFactsY_ok ⟨u4, rb, h1.size, sl, _, _, rfl, hRd, B2'.step0 s4, by omega, fun e he u5 h5 s5 => ⟨u5, e, rfl, s5.mono (fun b _ q => q), fun u6 h6 s6 => ⟨by simp (disch := first | omega | (simp only [e_ssz, e_psz, e_hszs, List.length_cons, List.length_nil]; try omega; done)) only [go_sem], ?_⟩⟩, fun a ha u5 h5 w v s5 hX ow => ⟨u5, s5.mono (fun b _ q => q), fun u6 h6 s6 => ⟨by simp (disch := first | omega | (simp only [e_ssz, e_psz, e_hszs, List.length_cons, List.length_nil]; try omega; done)) only [go_sem], ?_⟩⟩⟩
      · refine fin e u6 h6 _ _ _ (by simp [upd]) (by simp [upd]) ?_
        rw [hT]
        exact ⟨((st2.trans0 s4).trans s5 (fun b hb q => by omega)).trans s6 (fun b hb q => by omega), ((A1.step0 s4).step s5 (by omega)).step s6 (by omega), by have := s4.ge.sz; have := s5.ge.sz; have := s6.ge.sz; omega, .inl ⟨factsD_ne _ _ (good_src hshort) e he, by rw [hpf]; exact he⟩⟩
      · refine fin (0, 0) u6 h6 _ _ _ (by simp [upd]) (by simp [upd]) ?_
        rw [hT]
        have hz4 := s4.ge.sz
        exact ⟨((st2.trans0 s4).trans s5 (fun b hb q => by omega)).trans s6 (fun b hb q => by omega), ((A1.step0 s4).step s5 (by omega)).step s6 (by omega), by have := s5.ge.sz; have := s6.ge.sz; omega, .inr ⟨rfl, a, w, by rw [hpf]; exact ha, hX.step s6 (by omega), (ow.step s6 (fun b q q' => by have := ow.ge q; omega)).mono hz4⟩⟩
  · intro σ' h' hm
    rw [hM] at hm
    obtain ⟨f, uE, b5, e3, e4, e5, hTf, A5, hb5⟩ := hm
    rw [hT] at hTf
    obtain ⟨st, A1', hz, hres⟩ := hTf
    have A11 := A1'.1
    have A51 := A5.1
    have w1 := A1'.sets (l := [.int .i64 f.1, .int .i64 0, .int .i64 f.2]) rfl
    have s7 := Step.sets (S := fun b => b = h.size) uE h' (b := h.size) (o := 0) [.int .i64 f.1, .int .i64 0, .int .i64 f.2] rfl (by rw [A1'.2.2.2.1]; exact Nat.zero_le _) (by rw [A1'.2.1]; exact Nat.le_refl _)
    have st8 := st.trans s7 (fun b hb q => by omega)
    rcases hres with ⟨hf, hp⟩ | ⟨rfl, a, w, hp, X, ow⟩
    · have hK' := hKE f hp _ _ st8
      simp only [fltV] at hK'
      simp (disch := first | omega | (simp only [e_ssz, e_psz, e_hszs, List.length_cons, List.length_nil]; try omega; done)) only [↓reduceIte, go_sem, pFactsB, sS, psFacts_S, e3, e5, A5.at, A5.2.1, hf, A1'.2.1, A1'.2.2.1, w1.at, w1.2.1]
      exact hK'
    · have X1 := X.1
      have hK' := hKO a hp _ _ _ st8 ((ow.step s7 (fun b q q' => by have := ow.ge q; omega)).mono (by omega))
      simp only [fltV] at hK'
      obtain ⟨xa, xc, rfl, n1, n2⟩ := ow.sl
      simp (disch := first | omega | (simp only [e_ssz, e_psz, e_hszs, List.length_cons, List.length_nil]; try omega; done)) only [↓reduceIte, go_sem, pFactsB, sS, psFacts_S, e3, e4, e5, A5.at, A5.2.1, A1'.2.1, A1'.2.2.1, X.at, X.2.1, w1.at, w1.2.1]
      exact hK'
end Go.Proofs.YtlenjlidahnklaaDoor
