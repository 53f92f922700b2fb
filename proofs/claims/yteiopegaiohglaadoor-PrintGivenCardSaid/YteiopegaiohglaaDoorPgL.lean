/- The law PrintGiven. -/
import Derived.Test.YteiopegaiohglaaDoorPgN
namespace Edict
theorem atF_eq {A : AtomT} {x : Fact} (h : atF A = x) : A.1 = x.1 ∧ A.2.1.map constD = x.2 := by rw [← h]; exact ⟨rfl, rfl⟩
end Edict
namespace Go.Proofs.YteiopegaiohglaaDoor
open Go Go.Ev Edict
def C_given (vs : List Value) (h : H) (K : Value → H → Prop) : Prop := ∃ (u : U) (v : Value) (l : List Fact), vs = [v] ∧ IsSl u h v l ∧ (∀ f ∈ l, FactS f) ∧ (∀ f ∈ l, ∀ c ∈ f.2, -9223372036854775808 ≤ c.2.1 ∧ c.2.1 ≤ 9223372036854775807) ∧ LxG u h ∧ PowG u h ∧ ∀ u' h', Step S0 u h u' h' → K (.bool true) h'
def G_given : Ctr := fun f vs h K _ => (f = 4 ∧ C_pgFacts vs h K) ∨ (f = 5 ∧ C_pFactsT vs h K) ∨ (f = 6 ∧ C_lines vs h K) ∨ (f = 8 ∧ C_pFactT vs h K) ∨ (f = 7 ∧ C_pFact vs h K) ∨ (f = 9 ∧ C_alike vs h K) ∨ (f = 10 ∧ C_pFacts vs h K) ∨ (f = 11 ∧ C_same vs h K)
theorem G_given_ok : GOk Tryd.prog G_given := by
  rintro f vs h K KP (⟨rfl, hC⟩ | ⟨rfl, hC⟩ | ⟨rfl, hC⟩ | ⟨rfl, hC⟩ | ⟨rfl, hC⟩ | ⟨rfl, hC⟩ | ⟨rfl, hC⟩ | ⟨rfl, hC⟩)
  · exact pgFacts_ok hC
  · exact prFacts_ok hC
  · exact pgLines_ok hC
  · exact prFact_ok hC
  · exact psFact_ok hC
  · exact pgAlike_ok hC
  · exact psFacts_ok hC
  · exact pgSame_ok hC
theorem pgLaw_ok {vs : List Value} {h : H} {K : Value → H → Prop} {KP : List PanicEntry → H → Prop} (hC : C_given vs h K) : HCX Tryd.prog 3 vs h K KP := by
  obtain ⟨u, v, fs, rfl, hv, hS, hR, hG, hP, hK⟩ := hC
  have hm := mlen
  refine pgLaw_H G_given G_given_ok _ ?_
  simp (disch := first | omega | (simp only [e_ssz, e_psz, e_hszs, List.length_cons, List.length_nil]; try omega; done)) only [↓reduceIte, go_sem, pgLaw_S, pgLaw_E]
  refine effS_call (.inl ⟨rfl, u, v, fs, rfl, hv, hS, fun u1 h1 w s1 iw => ⟨by simp (disch := first | omega | (simp only [e_ssz, e_psz, e_hszs, List.length_cons, List.length_nil]; try omega; done)) only [go_sem], ?_⟩⟩)
  obtain ⟨l, hl⟩ : ∃ l, l = (fs.take 4096).map facM := ⟨_, rfl⟩
  rw [← hl] at iw
  have hok : ∀ f ∈ l, OkF f := fun f hf => by
    rw [hl] at hf
    obtain ⟨x, hx, rfl⟩ := List.mem_map.1 hf
    exact facM_ok (hR x (List.mem_of_mem_take hx))
  have hlen : l.length ≤ 4096 := by rw [hl, List.length_map, List.length_take]; omega
  clear hl hS hR hv
  obtain ⟨la, lc, rfl, q1, q2⟩ := iw.sl
  have hfl := factsT_len hok l.length (Nat.le_refl _)
  have hln := factsT_lines hok l.length (Nat.le_refl _)
  have hback := facts_back hok hlen
  simp (disch := first | omega | (simp only [e_ssz, e_psz, e_hszs, List.length_cons, List.length_nil]; try omega; done)) only [↓reduceIte, go_sem]
  refine effS_call (.inr (.inl ⟨rfl, _, l, u1, rfl, iw, hok, hlen, hP.mono s1.ge, fun u2 h2 s2 => ⟨by simp (disch := first | omega | (simp only [e_ssz, e_psz, e_hszs, List.length_cons, List.length_nil]; try omega; done)) only [go_sem], ?_⟩⟩))
  obtain ⟨s, hs⟩ : ∃ s, s = factsT l l.length := ⟨_, rfl⟩
  rw [← hs] at hfl hln hback ⊢
  clear hs
  have st2 := s1.trans0 s2
  simp (disch := first | omega | (simp only [e_ssz, e_psz, e_hszs, List.length_cons, List.length_nil]; try omega; done)) only [↓reduceIte, go_sem]
  refine effS_call (.inr (.inr (.inl ⟨rfl, s, l.length, rfl, hln, by omega, ⟨by simp (disch := first | omega | (simp only [e_ssz, e_psz, e_hszs, List.length_cons, List.length_nil]; try omega; done)) only [go_sem], ?_⟩⟩)))
  simp (disch := first | omega | (simp only [e_ssz, e_psz, e_hszs, List.length_cons, List.length_nil]; try omega; done)) only [↓reduceIte, go_sem]
  obtain ⟨I, hI⟩ : ∃ I : Nat → Env → H → Prop, I = fun i σ h' => ∃ u', σ 3 = .slice la l.length lc ∧ σ 4 = str s ∧ σ 5 = .int .i64 (i : Nat) ∧ i ≤ l.length ∧ Step S0 u h u' h' ∧ IsSl u' h' (.slice la l.length lc) l := ⟨_, rfl⟩
  refine wpS_loop I (fun j => l.length - j) 0 (by rw [hI]; exact ⟨u2, by simp [upd], by simp [upd], by simp [upd], by omega, st2, iw.mono s2.ge⟩) ?_
  clear s1 s2 st2 iw
  intro i σ h3 hy
  rw [hI] at hy
  obtain ⟨u3, e3, e4, e5, hi, st, il⟩ := hy
  by_cases hlt : i < l.length
  · obtain ⟨x, hx⟩ : ∃ x, l[i]? = some x := ⟨l[i], by simp [hlt]⟩
    have hf := hok x (List.mem_of_getElem? hx)
    have hfx := (factS_ln hf).1
    obtain ⟨A, hA, hAx⟩ := fact_back hf (by omega)
    obtain ⟨a1, a2⟩ := atF_eq hAx
    have il0 := il
    obtain ⟨pb, po, rfl, hpb, hpu, hpz, hpr⟩ := il.row i x hx
    rw [rep_factG] at hpr
    obtain ⟨xv, hpr, ixv⟩ := hpr
    obtain ⟨xa, xc, rfl, -, -⟩ := ixv.sl
    simp only [sz_factG, hvs_2, List.cons.injEq, and_true] at hpr hpu hpz
    obtain ⟨p0, p1⟩ := hpr
    simp (disch := first | omega | (simp only [e_ssz, e_psz, e_hszs, List.length_cons, List.length_nil]; try omega; done)) only [↓reduceIte, go_sem, pgLaw_L1, e3, e5, hlt, p0, p1]
    refine effS_call (.inr (.inr (.inr (.inl ⟨rfl, x, _, u3, rfl, ixv, hf, hP.mono st.ge, fun u4 h4 s4 => ⟨by simp (disch := first | omega | (simp only [e_ssz, e_psz, e_hszs, List.length_cons, List.length_nil]; try omega; done)) only [go_sem], ?_⟩⟩))))
    simp (disch := first | omega | (simp only [e_ssz, e_psz, e_hszs, List.length_cons, List.length_nil]; try omega; done)) only [↓reduceIte, go_sem]
    refine effS_call (.inr (.inr (.inr (.inr (.inl ⟨rfl, u4, _, rfl, by omega, hG.mono (st.trans0 s4).ge, fun e he => ?_, fun a ha u5 h5 y s5 oy => ?_⟩)))))
    · rw [hA] at he; cases he
    rw [hA] at ha
    obtain rfl : A = a := Except.ok.inj ha
    rw [a2] at oy
    rw [a1]
    obtain ⟨ya, yc, rfl, -, -⟩ := oy.sl
    refine ⟨by simp (disch := first | omega | (simp only [e_ssz, e_psz, e_hszs, List.length_cons, List.length_nil]; try omega; done)) only [go_sem], ?_⟩
    have st5 := (st.trans0 s4).trans0 s5
    obtain ⟨u6, s6, B1, B2⟩ := two_new (u := u5) (h := h5) [str x.1, .slice ya x.2.length yc] [.int .i64 0, .int .i64 0, .int .i64 0] 28 31
    have st6 := st5.trans0 s6
    have B11 := B1.1
    have B21 := B2.1
    have iy := oy.isSl.mono s6.ge
    have ix := ((ixv.mono s4.ge).mono s5.ge).mono s6.ge
    have il6 := ((il0.mono s4.ge).mono s5.ge).mono s6.ge
    obtain ⟨pb', po', hla, hpb, hpu, hpz, hpr⟩ := il6.row i x hx
    cases hla
    rw [rep_factG] at hpr
    obtain ⟨xv', hpr, ixv'⟩ := hpr
    obtain ⟨xa', xc', rfl, -, -⟩ := ixv'.sl
    simp only [sz_factG, hvs_2, List.cons.injEq, and_true] at hpr hpu hpz
    obtain ⟨p0', p1'⟩ := hpr
    simp (disch := first | omega | (simp only [e_ssz, e_psz, e_hszs, List.length_cons, List.length_nil]; try omega; done)) only [↓reduceIte, go_sem, fltV, e3, e5, hlt, B1.at, B1.2.1, B2.at, B2.2.1, p0', p1']
    refine effS_call (.inr (.inr (.inr (.inr (.inr (.inl ⟨rfl, u6, x.1, _, _, x.2, rfl, ixv', iy, fun u7 h7 s7 => ⟨by simp (disch := first | omega | (simp only [e_ssz, e_psz, e_hszs, List.length_cons, List.length_nil]; try omega; done)) only [go_sem], ?_⟩⟩))))))
    simp (disch := first | omega | (simp only [e_ssz, e_psz, e_hszs, List.length_cons, List.length_nil]; try omega; done)) only [↓reduceIte, go_sem, e5]
    refine ⟨i + 1, ?_, by omega⟩
    rw [hI]
    exact ⟨u7, by simp [upd, e3], by simp [upd, e4], by simp [upd], hlt, st6.trans0 s7, il6.mono s7.ge⟩
  · obtain rfl : i = l.length := by omega
    by_cases h65 : 65536 < s.length
    · simp (disch := first | omega | (simp only [e_ssz, e_psz, e_hszs, List.length_cons, List.length_nil]; try omega; done)) only [↓reduceIte, go_sem, pgLaw_L1, e3, e4, e5, eq_true (show (65536 : Int) < s.length by omega)]
      exact hK _ _ st
    obtain ⟨As, hA, hAl⟩ := hback (by omega)
    simp (disch := first | omega | (simp only [e_ssz, e_psz, e_hszs, List.length_cons, List.length_nil]; try omega; done)) only [↓reduceIte, go_sem, pgLaw_L1, e3, e4, e5, eq_false (show ¬ (65536 : Int) < s.length by omega)]
    refine effS_call (.inr (.inr (.inr (.inr (.inr (.inr (.inl ⟨rfl, u3, s, rfl, by omega, hG.mono st.ge, fun e he => ?_, fun a ha u5 h5 y s5 oy => ?_⟩)))))))
    · rw [hA] at he; cases he
    rw [hA] at ha
    obtain rfl : As = a := Except.ok.inj ha
    have hAn : As.length = l.length := by rw [← hAl, List.length_map]
    obtain ⟨ya, yc, rfl, -, -⟩ := oy.sl
    rw [hAn] at oy ⊢
    refine ⟨by simp (disch := first | omega | (simp only [e_ssz, e_psz, e_hszs, List.length_cons, List.length_nil]; try omega; done)) only [go_sem], ?_⟩
    have s6 := Step.push0 S0 u5 h5 #[.int .i64 0, .int .i64 0, .int .i64 0] 31
    have B := Blk.new (u := u5) (h := h5) [.int .i64 0, .int .i64 0, .int .i64 0] 31
    have B1 := B.1
    have st6 := (st.trans0 s5).trans0 s6
    simp (disch := first | omega | (simp only [e_ssz, e_psz, e_hszs, List.length_cons, List.length_nil]; try omega; done)) only [↓reduceIte, go_sem, fltV, e3, B.at, B.2.1]
    obtain ⟨J, hJ⟩ : ∃ J : Nat → Env → H → Prop, J = fun j σ' h' => ∃ u', σ' 3 = .slice la l.length lc ∧ σ' 8 = .slice ya l.length yc ∧ σ' 10 = .int .i64 (j : Nat) ∧ j ≤ l.length ∧ Step S0 u h u' h' ∧ IsSl u' h' (.slice la l.length lc) l ∧ IsSl u' h' (.slice ya l.length yc) As := ⟨_, rfl⟩
    refine wpS_loop J (fun j => l.length - j) 0 (by rw [hJ]; exact ⟨_, by simp [upd, e3], by simp [upd], by simp [upd], by omega, st6, (il.mono s5.ge).mono s6.ge, oy.isSl.mono s6.ge⟩) ?_
    clear B B1 st6 s6 oy s5 il e3 e4 e5 st
    intro j σ' h7 hz
    rw [hJ] at hz
    obtain ⟨u7, e3, e8, e10, hj, st, il, iy⟩ := hz
    by_cases hlj : j < l.length
    · obtain ⟨x, hx⟩ : ∃ x, l[j]? = some x := ⟨l[j], by simp [hlj]⟩
      obtain ⟨A, hAx⟩ : ∃ A, As[j]? = some A := ⟨As[j]'(by omega), by simp [hAn, hlj]⟩
      obtain ⟨a1, a2⟩ : A.1 = x.1 ∧ A.2.1.map constD = x.2 := by
        refine atF_eq ?_
        have := congrArg (fun t => t[j]?) hAl
        simp only [List.getElem?_map, hAx, hx, Option.map_some, Option.some.injEq] at this
        exact this
      obtain ⟨pb, po, rfl, hpb, hpu, hpz, hpr⟩ := il.row j x hx
      rw [rep_factG] at hpr
      obtain ⟨xv, hpr, ixv⟩ := hpr
      obtain ⟨xa, xc, rfl, -, -⟩ := ixv.sl
      simp only [sz_factG, hvs_2, List.cons.injEq, and_true] at hpr hpu hpz
      obtain ⟨p0, p1⟩ := hpr
      obtain ⟨qb, qo, rfl, hqb, hqu, hqz, hqr⟩ := iy.row j A hAx
      rw [rep_atom] at hqr
      obtain ⟨yv, hqr, iyv⟩ := hqr
      obtain ⟨za, zc, rfl, -, -⟩ := iyv.sl
      simp only [sz_atom, hvs_3, List.cons.injEq, and_true] at hqr hqu hqz
      obtain ⟨c0, c1, c2⟩ := hqr
      rw [← a2] at ixv
      have hxl : x.2.length = A.2.1.length := by rw [← a2, List.length_map]
      simp (disch := first | omega | (simp only [e_ssz, e_psz, e_hszs, List.length_cons, List.length_nil]; try omega; done)) only [↓reduceIte, go_sem, pgLaw_L2, e3, e8, e10, hlj, p0, p1, c0, c1, c2]
      refine effS_call (.inr (.inr (.inr (.inr (.inr (.inr (.inr ⟨rfl, u7, x.1, _, _, A.2.1, A.2.2, by rw [a1, hxl, List.length_map], ixv, iyv, fun u8 h8 s8 => ⟨by simp (disch := first | omega | (simp only [e_ssz, e_psz, e_hszs, List.length_cons, List.length_nil]; try omega; done)) only [go_sem], ?_⟩⟩)))))))
      simp (disch := first | omega | (simp only [e_ssz, e_psz, e_hszs, List.length_cons, List.length_nil]; try omega; done)) only [↓reduceIte, go_sem, e10]
      refine ⟨j + 1, ?_, by omega⟩
      rw [hJ]
      exact ⟨u8, by simp [upd, e3], by simp [upd, e8], by simp [upd], hlj, st.trans0 s8, il.mono s8.ge, iy.mono s8.ge⟩
    · simp (disch := first | omega | (simp only [e_ssz, e_psz, e_hszs, List.length_cons, List.length_nil]; try omega; done)) only [↓reduceIte, go_sem, pgLaw_L2, e3, e10, eq_false (show ¬ (j : Int) < (l.length : Nat) by omega)]
      exact hK _ _ st
theorem PrintGiven_hc {v : Value} {l : List Fact} {h : H} (hv : IsSl (hsz h) h v l) (hS : ∀ f ∈ l, FactS f) (hR : ∀ f ∈ l, ∀ c ∈ f.2, -9223372036854775808 ≤ c.2.1 ∧ c.2.1 ≤ 9223372036854775807) (hG : LxG (hsz h) h) (hP : PowG (hsz h) h) :
    HCX Tryd.prog 3 [v] h (fun v h' => v = .bool true ∧ Ext0 h h') fun _ _ => False :=
  pgLaw_ok ⟨hsz h, v, l, rfl, hv, hS, hR, hG, hP, fun u' h' st => ⟨rfl, st.ext⟩⟩
end Go.Proofs.YteiopegaiohglaaDoor
