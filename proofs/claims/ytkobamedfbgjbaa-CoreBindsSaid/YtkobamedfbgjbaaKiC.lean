/- CoreBinds: bodied, works. -/
import Derived.Test.YtkobamedfbgjbaaKiB
import Derived.Test.YtkobamedfbgjbaaKcD
import Derived.Test.YtkobamedfbgjbaaKcQ
namespace Edict
open Go Go.Ev
theorem wf_wC : Rep.wf [wC] := by
  have ht : Rep.wf [wX] := wfl (by decide) (fun x hx => by rcases List.mem_singleton.1 hx with rfl; exact ⟨w4, w0, wfs (by decide), w0⟩)
  refine wfl (by decide) fun x hx => ?_
  rcases List.mem_singleton.1 hx with rfl
  exact ⟨⟨wfs (by decide), ht, w0⟩, wfl (by decide) fun x hx => by
    rcases List.mem_singleton.1 hx with rfl
    exact ⟨w1, ⟨wfs (by decide), ht, w0⟩, w0, wf_zterm, wf_zterm, w0⟩⟩
theorem bodN_cons (c : Clause) (l : List Clause) : bodN (c :: l) = (if 0 < c.2.length then 1 else 0) + bodN l := by
  unfold bodN
  by_cases h : 0 < c.2.length
  · rw [List.filter_cons_of_pos (by cases hc : c.2 <;> simp_all), if_pos h]; simp; omega
  · rw [List.filter_cons_of_neg (by cases hc : c.2 <;> simp_all), if_neg h]; simp
theorem bodN_le (l : List Clause) : bodN l ≤ l.length := List.length_filter_le _ _
end Edict
namespace Go.Proofs.Ytkobamedfbgjbaa
open Go Go.Ev Edict
theorem rep_core_inv {u : U} {h : H} {k : Core} {cs : List Value} (hr : Rep.rep u h k cs) : ∃ v0 v1 v2 v3, cs = [v0, v1, v2, v3] ∧ IsSl u h v0 k.1 ∧ IsSl u h v1 k.2.1 ∧ IsSl u h v2 k.2.2.1 ∧ IsSl u h v3 k.2.2.2 := by
  obtain ⟨_, _, rfl, ⟨v0, rfl, h0⟩, _, _, rfl, ⟨v1, rfl, h1⟩, _, _, rfl, ⟨v2, rfl, h2⟩, v3, rfl, h3⟩ := hr
  exact ⟨v0, v1, v2, v3, rfl, h0, h1, h2, h3⟩
def C_bodied (vs : List Value) (h : H) (K : Value → H → Prop) : Prop := ∃ (u : U) (v : Value) (p : List Clause), vs = [.agg #[v]] ∧ IsSl u h v p ∧ ∀ u' h', Step S0 u h u' h' → K (.int .i64 (bodN p)) h'
theorem klBodied_ok {vs : List Value} {h : H} {K : Value → H → Prop} {KP : List PanicEntry → H → Prop} (hC : C_bodied vs h K) : HCX Try.prog 13 vs h K KP := by
  obtain ⟨u, v, p, rfl, hl, hK⟩ := hC
  obtain ⟨la, lc, rfl, q1, q2⟩ := hl.sl
  have hm := mlen'
  refine klBodied_H (fun _ _ _ _ _ => False) (fun _ _ _ _ _ h => h.elim) _ ?_
  have sA := Step.push0 S0 u h #[.slice la p.length lc] 24
  have A : Blk (ub u h.size 0) (h.push (.cells #[.slice la p.length lc] 24)) h.size [.slice la p.length lc] := (Blk.mk (by simp only [e_psz]; omega) (by simp (disch := first | omega | (simp only [e_ssz, e_psz, e_hszs, List.length_cons, List.length_nil]; try omega; done)) only [go_sem]) (by simp (disch := first | omega | (simp only [e_ssz, e_psz, e_hszs, List.length_cons, List.length_nil]; try omega; done)) only [go_sem]) (by repeat (first | (refine ub_at ?_; simp only []; done) | apply ub_zero)) (by simp (disch := first | omega | (simp only [e_ssz, e_psz, e_hszs, List.length_cons, List.length_nil]; try omega; done)) only [go_sem]))
  have hl1 := hl.mono sA.ge
  simp (disch := first | omega | (simp only [e_ssz, e_psz, e_hszs, List.length_cons, List.length_nil]; try omega; done)) only [↓reduceIte, go_sem, klBodied_S, klBodied_E]
  generalize ub u h.size 0 = u1 at sA A hl1
  generalize h.push (.cells #[.slice la p.length lc] 24) = h1 at sA A hl1 ⊢
  have hal := A.1
  obtain ⟨I, hI⟩ : ∃ I : Nat → Env → H → Prop, I = fun i σ h' => h' = h1 ∧ σ 1 = .pointer (some ⟨h.size, 0, none⟩) ∧ σ 4 = .int .i64 i ∧ i ≤ p.length ∧ ∃ m : Nat, σ 3 = .int .i64 m ∧ m + bodN (p.drop i) = bodN p := ⟨_, rfl⟩
  refine wpS_loop I (fun i => p.length - i) 0 (by rw [hI]; exact ⟨rfl, by simp [upd], by simp [upd], Nat.zero_le _, 0, by simp [upd], by simp⟩) ?_
  intro i σ h' hy
  rw [hI] at hy
  obtain ⟨rfl, e1, e4, hi, m, e3, hb⟩ := hy
  have hbl := bodN_le p
  by_cases hlt : i < p.length
  · obtain ⟨x, hs⟩ : ∃ x, p[i]? = some x := ⟨p[i], by simp [hlt]⟩
    have hdr : p.drop i = x :: p.drop (i + 1) := by
      obtain ⟨hi', rfl⟩ := List.getElem?_eq_some_iff.1 hs
      exact List.drop_eq_getElem_cons hi'
    rw [hdr, bodN_cons] at hb
    obtain ⟨pb, po, rfl, hpb, hpu, hpz, hpr⟩ := hl1.row i x hs
    rw [rep_clause] at hpr
    obtain ⟨va, vb, hpr, hh, hbd⟩ := hpr
    obtain ⟨ba, bc, rfl, -, -⟩ := hbd.sl
    simp only [sz_clause, hvs_4, List.cons.injEq, and_true] at hpr hpu hpz
    obtain ⟨l0, l1, l2, l3⟩ := hpr
    by_cases hx : 0 < x.2.length
    · rw [if_pos hx] at hb
      simp (disch := first | omega | (simp only [e_ssz, e_psz, e_hszs, List.length_cons, List.length_nil]; try omega; done)) only [↓reduceIte, go_sem, klBodied_L1, e1, e3, e4, A.at, A.2.1, hlt, l3, eq_true (show (0 : Int) < (x.2.length : Int) by omega)]
      refine ⟨i + 1, ?_, by omega⟩
      rw [hI]
      exact ⟨rfl, by simp [upd, e1], by simp [upd], hlt, m + 1, by simp [upd], by omega⟩
    · rw [if_neg hx] at hb
      simp (disch := first | omega | (simp only [e_ssz, e_psz, e_hszs, List.length_cons, List.length_nil]; try omega; done)) only [↓reduceIte, go_sem, klBodied_L1, e1, e4, A.at, A.2.1, hlt, l3, eq_false (show ¬ (0 : Int) < (x.2.length : Int) by omega)]
      refine ⟨i + 1, ?_, by omega⟩
      rw [hI]
      exact ⟨rfl, by simp [upd, e1], by simp [upd], hlt, m, by simp [upd, e3], by omega⟩
  · obtain rfl : i = p.length := by omega
    rw [List.drop_length] at hb
    obtain rfl : m = bodN p := by rw [← hb]; rfl
    simp (disch := first | omega | (simp only [e_ssz, e_psz, e_hszs, List.length_cons, List.length_nil]; try omega; done)) only [↓reduceIte, go_sem, klBodied_L1, e1, e3, e4, A.at, A.2.1]
    exact hK _ _ sA
def C_works (vs : List Value) (h : H) (K : Value → H → Prop) : Prop := ∃ u : U, vs = [] ∧ PowT u h ∧ ∀ u' h', Step S0 u h u' h' → K (.bool true) h'
def G_klWorks : Ctr := fun f vs h K _ => f = 9 ∧ C_build vs h K
theorem G_klWorks_ok : GOk Try.prog G_klWorks := by
  rintro f vs h K KP ⟨rfl, hC⟩; exact crBuild_ok hC
theorem klWorks_ok {vs : List Value} {h : H} {K : Value → H → Prop} {KP : List PanicEntry → H → Prop} (hC : C_works vs h K) : HCX Try.prog 12 vs h K KP := by
  obtain ⟨u, rfl, hP, hK⟩ := hC
  have hm := mlen'
  refine klWorks_H G_klWorks G_klWorks_ok ?_
  have sA := Step.push S0 u h #[.int .i64 4, .int .i64 0, str [88], .int .i64 0] 94 4
  have iA : IsSl (ub u h.size 4) (h.push (.cells #[.int .i64 4, .int .i64 0, str [88], .int .i64 0] 94)) (.slice (some ⟨h.size, 0, none⟩) 1 1) [wX] := isSl_push1 94 (x := wX) (rep_term.mpr rfl)
  simp (disch := first | omega | (simp only [e_ssz, e_psz, e_hszs, List.length_cons, List.length_nil]; try omega; done)) only [↓reduceIte, go_sem, klWorks_S, klWorks_E]
  generalize ub u h.size 4 = u1 at sA iA
  obtain ⟨h1, hh1⟩ : ∃ h1, h1 = h.push (.cells #[.int .i64 4, .int .i64 0, str [88], .int .i64 0] 94) := ⟨_, rfl⟩
  have hs1 : h1.size = h.size + 1 := by rw [hh1]; simp only [e_psz]
  rw [← hh1] at sA iA ⊢
  have sB := Step.push S0 u1 h1 #[.int .i64 1, str [113], .slice (some ⟨h.size, 0, none⟩) 1 1, .int .i64 0, .int .i64 0, .int .i64 0, .int .i64 0, str [], .int .i64 0, .int .i64 0, .int .i64 0, str [], .int .i64 0, .int .i64 0] 109 14
  have iB : IsSl (ub u1 h1.size 14) (h1.push (.cells #[.int .i64 1, str [113], .slice (some ⟨h.size, 0, none⟩) 1 1, .int .i64 0, .int .i64 0, .int .i64 0, .int .i64 0, str [], .int .i64 0, .int .i64 0, .int .i64 0, str [], .int .i64 0, .int .i64 0] 109)) (.slice (some ⟨h1.size, 0, none⟩) 1 1) wC.2 := isSl_push1 109 (x := (1, ([113], [wX], 0), 0, zterm, zterm, 0)) (rep_literal.mpr ⟨_, rfl, iA⟩)
  have iA2 := iA.mono sB.ge
  rw [hs1] at iB
  obtain ⟨u2, hu2⟩ : ∃ u2, u2 = ub u1 h1.size 14 := ⟨_, rfl⟩
  obtain ⟨h2, hh2⟩ : ∃ h2, h2 = h1.push (.cells #[.int .i64 1, str [113], .slice (some ⟨h.size, 0, none⟩) 1 1, .int .i64 0, .int .i64 0, .int .i64 0, .int .i64 0, str [], .int .i64 0, .int .i64 0, .int .i64 0, str [], .int .i64 0, .int .i64 0] 109) := ⟨_, rfl⟩
  have hs2 : h2.size = h.size + 2 := by rw [hh2, e_psz, hs1]
  rw [← hh2] at sB iB iA2 ⊢
  rw [← hu2] at sB iA2
  rw [← hs1, ← hu2, hs1] at iB
  have sC := Step.push0 S0 u2 h2 #[str [112], .slice (some ⟨h.size, 0, none⟩) 1 1, .int .i64 0, .slice (some ⟨h.size + 1, 0, none⟩) 1 1] 48
  have iA3 := iA2.mono sC.ge
  have iB3 := iB.mono sC.ge
  generalize ub u2 h2.size 0 = u3 at sC iA3 iB3
  obtain ⟨h3, hh3⟩ : ∃ h3, h3 = h2.push (.cells #[str [112], .slice (some ⟨h.size, 0, none⟩) 1 1, .int .i64 0, .slice (some ⟨h.size + 1, 0, none⟩) 1 1] 48) := ⟨_, rfl⟩
  have hs3 : h3.size = h.size + 3 := by rw [hh3, e_psz, hs2]
  rw [← hh3] at sC iA3 iB3 ⊢
  have sD := Step.push S0 u3 h3 #[str [112], .slice (some ⟨h.size, 0, none⟩) 1 1, .int .i64 0, .slice (some ⟨h.size + 1, 0, none⟩) 1 1] 48 4
  have iD : IsSl (ub u3 h3.size 4) (h3.push (.cells #[str [112], .slice (some ⟨h.size, 0, none⟩) 1 1, .int .i64 0, .slice (some ⟨h.size + 1, 0, none⟩) 1 1] 48)) (.slice (some ⟨h3.size, 0, none⟩) 1 1) [wC] := isSl_push1 48 (x := wC) (rep_clause.mpr ⟨_, _, rfl, iA3, iB3⟩)
  rw [hs3] at iD sD
  have st := ((sA.trans0 sB).trans0 sC).trans0 sD
  obtain ⟨w1, w2, r, w3, w4⟩ := works_ok
  refine effS_call ⟨rfl, _, _, _, [wC], [], rfl, iD, IsSl.nil _ _, wf_wC, wfl (by decide) (fun x hx => nomatch hx), hP.mono st.ge, fun u5 h5 l5 s5 hr5 => ⟨by simp (disch := first | omega | (simp only [e_ssz, e_psz, e_hszs, List.length_cons, List.length_nil]; try omega; done)) only [go_sem], ?_⟩⟩
  rw [w1]
  generalize buildF [wC] [] = bw at w1 w2 w3 hr5
  obtain ⟨v0, v1, v2, v3, rfl, i0, i1, i2, i3⟩ := rep_core_inv hr5
  obtain ⟨x0, y0, rfl, -, -⟩ := i0.sl
  obtain ⟨x1, y1, rfl, -, -⟩ := i1.sl
  obtain ⟨x2, y2, rfl, -, -⟩ := i2.sl
  obtain ⟨x3, y3, rfl, -, -⟩ := i3.sl
  rw [w3] at i2
  rw [w2, w3]
  have hlen : List.length [r] = 1 := rfl
  obtain ⟨pb, po, rfl, hpb, hpu, hpz, hpr⟩ := i2.row 0 r rfl
  rw [rep_rule] at hpr
  obtain ⟨z0, z1, z2, z3, z4, hpr, -, -, -, -, j4⟩ := hpr
  obtain ⟨x4, y4, rfl, -, -⟩ := j4.sl
  simp only [sz_rule, hvs_7, List.cons.injEq, and_true] at hpr hpu hpz
  obtain ⟨l0, l1, l2, l3, l4, l5, l6⟩ := hpr
  rw [w4] at l5
  have st5 := st.trans0 s5
  have sE := Step.push0 S0 u5 h5 #[.slice x0 2 y0, .slice x1 bw.1.2.1.length y1, .slice (some ⟨pb, po, none⟩) 1 y2, .slice x3 bw.1.2.2.2.length y3] 33
  have stE := (st5.trans0 sE)
  simp only [fV, hlen]
  simp (disch := first | omega | (simp only [e_ssz, e_psz, e_hszs, List.length_cons, List.length_nil]; try omega; done)) only [↓reduceIte, go_sem, l5]
  exact hK _ _ (stE.trans0 (Step.push0 S0 _ _ _ _))
end Go.Proofs.Ytkobamedfbgjbaa
