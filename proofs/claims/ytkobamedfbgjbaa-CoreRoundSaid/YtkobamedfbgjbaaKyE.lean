/- CoreRound: the law. -/
import Derived.Test.YtkobamedfbgjbaaKyC
import Derived.Test.YtkobamedfbgjbaaKyD
import Derived.Test.YtkobamedfbgjbaaWord
import Derived.Test.YtkobamedfbgjbaaKlE
namespace Edict
theorem slotsP_len (C : List Const) : ∀ (ts : List Term) (vs : Strs), (slotsP C vs ts).length = ts.length
  | [], _ => rfl
  | t :: l, vs => by simp [slotsP, slotsP_len C l]
theorem posF_len8 {P : List Pred} {C : List Const} : ∀ (ls : List Literal) (vs : Strs), (∀ x ∈ ls, x.2.1.2.1.length ≤ 8) → (posF P C vs ls).length ≤ ls.length ∧ ∀ p ∈ posF P C vs ls, p.2.length ≤ 8
  | [], _, _ => ⟨Nat.le_refl _, fun p hp => nomatch hp⟩
  | x :: l, vs, h => by
    have h2 := fun y hy => h y (List.mem_cons_of_mem _ hy)
    unfold posF
    split
    · obtain ⟨i1, i2⟩ := posF_len8 (P := P) (C := C) l (varL vs x) h2
      refine ⟨by simp only [List.length_cons]; omega, fun p hp => ?_⟩
      rcases List.mem_cons.1 hp with rfl | hp
      · show (slotsP C vs x.2.1.2.1).length ≤ 8
        rw [slotsP_len]; exact h x (List.mem_cons_self ..)
      · exact i2 p hp
    · obtain ⟨i1, i2⟩ := posF_len8 (P := P) (C := C) l vs h2
      exact ⟨by simp only [List.length_cons]; omega, i2⟩
theorem lit_args {x : Literal} (h : litW x = 0) : x.2.1.2.1.length ≤ 8 := by
  unfold litW at h
  split at h
  · split at h
    · exact atomW_few h
    · cases h
  · split at h
    · unfold testW at h
      split at h
      · cases h
      · rename_i hh
        have n2 : x.2.1.2.1 = [] := Classical.byContradiction fun q => hh (.inr (.inr (.inr q)))
        rw [n2]; decide
    · cases h
theorem clause_16 {c : Clause} (h : clauseW c = 0) : c.2.length ≤ 16 := by
  unfold clauseW at h
  split at h
  · split at h
    · cases h
    · omega
  · rename_i ha; exact absurd h ha
theorem rules_mem {ps : List Pred} {cs : List Const} : ∀ {l : List Clause} {st : List Rule × List Row} {n : Nat} {r : Rule}, r ∈ (rulesF ps cs st n l).1 → r ∈ st.1 ∨ ∃ c ∈ l, ∃ m : Nat, r = ruleC ps cs m c
  | [], _, _, _, h => .inl h
  | c :: l, st, n, r, h => by
    rcases rules_mem (l := l) (st := stepR ps cs st n c) (n := n + 1) h with h | ⟨d, hd, m, e⟩
    · unfold stepR at h
      split at h
      · exact .inl h
      · rcases List.mem_append.1 h with h | h
        · exact .inl h
        · exact .inr ⟨c, List.mem_cons_self .., n, List.mem_singleton.1 h⟩
    · exact .inr ⟨d, List.mem_cons_of_mem _ hd, m, e⟩
end Edict
namespace Go.Proofs.Ytkobamedfbgjbaa
open Go Go.Ev Edict
theorem lenR_rule {P : List Pred} {C : List Const} {n : Int} {c : Clause} (hn : ClauseN c) : LenR (ruleC P C n c) := by
  obtain ⟨hw1, hw2⟩ := clause_parts hn.w
  have h16 := clause_16 hn.w
  have ha := atomW_few hw1
  have hx : ∀ x ∈ c.2, x.2.1.2.1.length ≤ 8 := fun x hx => lit_args (hw2 x hx)
  obtain ⟨p1, p2⟩ := posF_len8 (P := P) (C := C) c.2 [] hx
  have f1 := List.length_filter_le (fun l : Literal => decide (l.1 = 3)) c.2
  have f2 := List.length_filter_le (fun l : Literal => decide (l.1 = 2)) c.2
  refine ⟨?_, ?_, ?_, ?_, fun p hp => Nat.le_trans (p2 p hp) (by decide), fun p hp => ?_⟩
  · show (c.1.2.1.map (slotN C (varsF c.2))).length ≤ 1048576
    rw [List.length_map]; omega
  · show (posF P C [] c.2).length ≤ 1048576
    omega
  · show (testsF C (varsF c.2) c.2).length ≤ 1048576
    unfold testsF; rw [List.length_map]; omega
  · show (negsF P C (varsF c.2) c.2).length ≤ 1048576
    unfold negsF; rw [List.length_map]; omega
  · have hp : p ∈ negsF P C (varsF c.2) c.2 := hp
    unfold negsF at hp
    obtain ⟨x, hxm, rfl⟩ := List.mem_map.1 hp
    show (x.2.1.2.1.map (slotN C (varsF c.2))).length ≤ 1048576
    rw [List.length_map]
    have := hx x (List.mem_filter.1 hxm).1
    omega
def G_klRound : Ctr := fun f vs h K _ => (f = 7 ∧ C_right vs h K) ∨ (f = 8 ∧ C_given vs h K) ∨ (f = 9 ∧ C_build vs h K) ∨ (f = 17 ∧ C_back vs h K) ∨ (f = 19 ∧ C_chain vs h K) ∨ (f = 18 ∧ C_lwClauses vs h K) ∨ (f = 20 ∧ C_init vs h K) ∨ (f = 21 ∧ C_fact vs h K) ∨ (f = 22 ∧ C_same vs h K)
theorem G_klRound_ok : GOk Try.prog G_klRound := by
  rintro f vs h K KP (⟨rfl, hC⟩ | ⟨rfl, hC⟩ | ⟨rfl, hC⟩ | ⟨rfl, hC⟩ | ⟨rfl, hC⟩ | ⟨rfl, hC⟩ | ⟨rfl, hC⟩ | ⟨rfl, hC⟩ | ⟨rfl, hC⟩)
  · exact klRight_ok hC
  · exact klGiven_ok hC
  · exact crBuild_ok hC
  · exact crBack_ok hC
  · exact klChain_ok hC
  · exact lwClauses_ok hC
  · exact klInitial_ok hC
  · exact crFact_ok hC
  · exact klSameFact_ok hC
theorem rep_core_inv {u : U} {h : H} {k : Core} {cs : List Value} (hr : Rep.rep u h k cs) : ∃ v0 v1 v2 v3, cs = [v0, v1, v2, v3] ∧ IsSl u h v0 k.1 ∧ IsSl u h v1 k.2.1 ∧ IsSl u h v2 k.2.2.1 ∧ IsSl u h v3 k.2.2.2 := by
  obtain ⟨_, _, rfl, ⟨v0, rfl, h0⟩, _, _, rfl, ⟨v1, rfl, h1⟩, _, _, rfl, ⟨v2, rfl, h2⟩, v3, rfl, h3⟩ := hr
  exact ⟨v0, v1, v2, v3, rfl, h0, h1, h2, h3⟩
structure RdX (u : U) (h : H) (p5 p7 : Nat) (ra ga x0 x1 x2 x3 : Option Addr) (rc gc y0 y1 y2 y3 : Nat) (q : List Clause) (g : List Atom) (k : Core) : Prop where
  B5 : Blk u h p5 [.slice ra q.length rc]
  B7 : Blk u h p7 [.slice x0 k.1.length y0, .slice x1 k.2.1.length y1, .slice x2 k.2.2.1.length y2, .slice x3 k.2.2.2.length y3]
  hq : IsSl u h (.slice ra q.length rc) q
  hg : IsSl u h (.slice ga g.length gc) g
  i0 : IsSl u h (.slice x0 k.1.length y0) k.1
  i1 : IsSl u h (.slice x1 k.2.1.length y1) k.2.1
  i2 : IsSl u h (.slice x2 k.2.2.1.length y2) k.2.2.1
  i3 : IsSl u h (.slice x3 k.2.2.2.length y3) k.2.2.2
theorem RdX.step0 {u u' : U} {h h' : H} {p5 p7 : Nat} {ra ga x0 x1 x2 x3 : Option Addr} {rc gc y0 y1 y2 y3 : Nat} {q : List Clause} {g : List Atom} {k : Core} (X : RdX u h p5 p7 ra ga x0 x1 x2 x3 rc gc y0 y1 y2 y3 q g k) (s : Step S0 u h u' h') : RdX u' h' p5 p7 ra ga x0 x1 x2 x3 rc gc y0 y1 y2 y3 q g k :=
  ⟨X.B5.step0 s, X.B7.step0 s, X.hq.mono s.ge, X.hg.mono s.ge, X.i0.mono s.ge, X.i1.mono s.ge, X.i2.mono s.ge, X.i3.mono s.ge⟩
theorem sz_factE : Rep.sz Fact = 2 := rfl
theorem CoreRound_hc {u : U} {h : H} {v w : Value} {p : List Clause} {fs : List Atom} (hl : IsSl u h v p) (hlf : IsSl u h w fs) (hwp : Rep.wf p) (hwf : Rep.wf fs) (hbp : ∀ c ∈ p, ClB c) (hbf : ∀ a ∈ fs, AtB a) (hP : PowT u h) :
    HCX Try.prog 6 [.agg #[v], w] h (fun v h' => v = .bool true ∧ Ext0 h h') fun _ _ => False := by
  obtain ⟨la, lc, rfl, -, -⟩ := hl.sl
  obtain ⟨fa, fc, rfl, -, -⟩ := hlf.sl
  have hm := mlen'
  refine klRound_H G_klRound G_klRound_ok _ _ ?_
  simp (disch := first | omega | (simp only [zz]; try omega; done)) only [↓reduceIte, go_sem, klRound_S, klRound_E]
  have s0 := Step.push0 S0 u h #[.slice la p.length lc] 24
  refine effS_call (.inl ⟨rfl, ub u h.size 0, _, p, rfl, hl.mono s0.ge, hbp, fun u1 h1 w1 s1 hw1 => ⟨by simp (disch := first | omega | (simp only [zz]; try omega; done)) only [go_sem], ?_⟩⟩)
  obtain ⟨ra, rc, rfl, -, -⟩ := hw1.sl
  have s2 := Step.push0 S0 u1 h1 #[.slice ra (rightF p).length rc] 24
  have Q2 : Blk (ub u1 h1.size 0) (h1.push (.cells #[.slice ra (rightF p).length rc] 24)) h1.size [.slice ra (rightF p).length rc] := Blk.new [.slice ra (rightF p).length rc] _
  have st2 := (s0.trans0 s1).trans0 s2
  have hw2 := hw1.mono s2.ge
  simp (disch := first | omega | (simp only [zz]; try omega; done)) only [↓reduceIte, go_sem]
  refine effS_call (.inr (.inl ⟨rfl, ub u1 h1.size 0, _, fs, rfl, hlf.mono st2.ge, hbf, fun u3 h3 w3 s3 hw3 => ⟨by simp (disch := first | omega | (simp only [zz]; try omega; done)) only [go_sem], ?_⟩⟩))
  obtain ⟨ga, gc, rfl, -, -⟩ := hw3.sl
  have Q3 := Q2.step0 s3
  have st3 := st2.trans0 s3
  have hr3 := hw2.mono s3.ge
  have hq3 := Q3.1
  simp (disch := first | omega | (simp only [zz]; try omega; done)) only [↓reduceIte, go_sem, Q3.at, Q3.2.1]
  refine effS_call (.inr (.inr (.inl ⟨rfl, u3, _, _, rightF p, givenF fs, rfl, hr3, hw3, wf_right hwp, wf_given hwf, hP.mono st3.ge, fun u4 h4 l4 s4 hr4 => ⟨by simp (disch := first | omega | (simp only [zz]; try omega; done)) only [go_sem], ?_⟩⟩)))
  rw [right_built] at hr4 ⊢
  have Q4 := Q3.step0 s4
  have st4 := st3.trans0 s4
  obtain ⟨v0, v1, v2, v3, rfl, i0, i1, i2, i3⟩ := rep_core_inv hr4
  have hqn := right_n p
  have hgn := givens_n fs
  have hqs := hr3.mono s4.ge
  have hgs := hw3.mono s4.ge
  generalize rightF p = q at *
  generalize givenF fs = g at *
  obtain ⟨k, hk⟩ : ∃ k, k = coreF q g := ⟨_, rfl⟩
  rw [← hk] at i0 i1 i2 i3 ⊢
  obtain ⟨x0, y0, rfl, -, -⟩ := i0.sl
  obtain ⟨x1, y1, rfl, -, -⟩ := i1.sl
  obtain ⟨x2, y2, rfl, -, -⟩ := i2.sl
  obtain ⟨x3, y3, rfl, -, -⟩ := i3.sl
  have s5 := Step.push0 S0 u4 h4 #[.slice x0 k.1.length y0, .slice x1 k.2.1.length y1, .slice x2 k.2.2.1.length y2, .slice x3 k.2.2.2.length y3] 33
  have B7 := Blk.new (u := u4) (h := h4) [.slice x0 k.1.length y0, .slice x1 k.2.1.length y1, .slice x2 k.2.2.1.length y2, .slice x3 k.2.2.2.length y3] 33
  have s6 := Step.push0 S0 (ub u4 h4.size 0) (h4.push (.cells #[.slice x0 k.1.length y0, .slice x1 k.2.1.length y1, .slice x2 k.2.2.1.length y2, .slice x3 k.2.2.2.length y3] 33)) #[.int .i64 0, .int .i64 0, .int .i64 0] 36
  have s56 := s5.trans0 s6
  have st6 := st4.trans0 s56
  have X : RdX _ _ h1.size h4.size ra ga x0 x1 x2 x3 rc gc y0 y1 y2 y3 q g k := ⟨Q4.step0 s56, B7.step0 s6, hqs.mono s56.ge, hgs.mono s56.ge, i0.mono s56.ge, i1.mono s56.ge, i2.mono s56.ge, i3.mono s56.ge⟩
  simp only [fV]
  have q4 := Q4.1
  simp (disch := first | omega | (simp only [zz]; try omega; done)) only [↓reduceIte, go_sem]
  obtain ⟨p5, hp5⟩ : ∃ p5, p5 = h1.size := ⟨_, rfl⟩
  obtain ⟨p7, hp7⟩ : ∃ p7, p7 = h4.size := ⟨_, rfl⟩
  rw [← hp5, ← hp7] at X
  rw [← hp7] at st6
  have hcnt : k.2.2.1.length = bodN q := by rw [hk]; exact round_count
  have hrl : ∀ r ∈ k.2.2.1, LenR r := fun r hr => by
    rw [hk] at hr
    rcases rules_mem hr with hr | ⟨c, hc, m, rfl⟩
    · simp at hr
    · exact lenR_rule (hqn.1 c hc)
  obtain ⟨I, hI⟩ : ∃ I : Nat → Env → H → Prop, I = fun i σ h' => σ 5 = .pointer (some ⟨p5, 0, none⟩) ∧ σ 6 = .slice ga g.length gc ∧ σ 7 = .pointer (some ⟨p7, 0, none⟩) ∧ σ 9 = .int .i64 (bodN (q.take i) : Nat) ∧ σ 10 = .int .i64 i ∧ i ≤ q.length ∧
    ∃ u' : U, Step S0 u h u' h' ∧ RdX u' h' p5 p7 ra ga x0 x1 x2 x3 rc gc y0 y1 y2 y3 q g k := ⟨_, rfl⟩
  refine wpS_loop I (fun i => q.length - i) 0 (by
    rw [hI]
    exact ⟨by simp [upd, hp5], by simp [upd], by simp [upd, hp7], by simp [upd, bodN], by simp [upd], Nat.zero_le _, _, st6, X⟩) ?_
  clear X B7 s5 s6 s56 st6 Q4 q4 hqs hgs i0 i1 i2 i3 hp5 hp7 Q3 hq3 Q2 hw2 hw1 hr3 hw3 hr4 st4 st3 st2
  intro i σ h' hy
  rw [hI] at hy
  obtain ⟨e5, e6, e7, e9, e10, hi, u', st, X⟩ := hy
  have b5 := X.B5.1
  have b7 := X.B7.1
  by_cases hlt : i < q.length
  · obtain ⟨c, hs⟩ : ∃ c, q[i]? = some c := ⟨q[i], by simp [hlt]⟩
    have hcn := hqn.1 c (List.mem_of_getElem? hs)
    have hbs : bodN (q.take (i + 1)) = bodN (q.take i) + if c.2 = [] then 0 else 1 := by
      rw [List.take_add_one, hs]
      unfold bodN
      rw [List.filter_append, List.length_append]
      congr 1
      by_cases hc : c.2 = []
      · rw [if_pos hc, Option.toList_some, List.filter_cons_of_neg (by simp [hc])]; rfl
      · rw [if_neg hc, Option.toList_some, List.filter_cons_of_pos (by simp [hc])]; rfl
    have hbn : bodN (q.take i) ≤ 200 := by
      have h1 := List.length_filter_le (fun c : Clause => !c.2.isEmpty) (q.take i)
      rw [List.length_take] at h1
      have := hqn.2
      unfold bodN; omega
    have hqk := X.hq
    obtain ⟨pb, po, rfl, hpb, hpu, hpz, hpr⟩ := hqk.row i c hs
    have hprs := hpr
    rw [rep_clause] at hpr
    obtain ⟨va, vb, hpr, hh, hbd⟩ := hpr
    obtain ⟨ha, hc, rfl, -, -⟩ := hh.sl
    obtain ⟨ba, bc, rfl, -, -⟩ := hbd.sl
    rw [hpr] at hprs
    simp only [sz_clause, hvs_4, List.cons.injEq, and_true] at hpr hpu hpz
    obtain ⟨l0, l1, l2, l3⟩ := hpr
    by_cases hc0 : c.2 = []
    · rw [if_pos hc0, Nat.add_zero] at hbs
      simp (disch := first | omega | (simp only [zz]; try omega; done)) only [↓reduceIte, go_sem, klRound_L1, e5, e10, X.B5.at, X.B5.2.1, hlt, l3, eq_true (show (c.2.length : Int) = 0 by rw [hc0]; rfl)]
      refine ⟨i + 1, ?_, by omega⟩
      rw [hI]
      exact ⟨by simp [upd, e5], by simp [upd, e6], by simp [upd, e7], by rw [hbs]; simp [upd, e9], by simp [upd], hlt, u', st, X⟩
    · rw [if_neg hc0] at hbs
      obtain ⟨hr1, hr2⟩ := round_rule (g := g) hqn.1 hs hc0
      rw [← hk] at hr1
      have hnl := (List.getElem?_eq_some_iff.1 hr1).1
      have hi2 := X.i2
      obtain ⟨rb, ro, hx2, hrb, hru, hrz, hrr⟩ := hi2.row _ _ hr1
      rw [rep_rule] at hrr
      obtain ⟨z0, z1, z2, z3, z4, hrr, -⟩ := hrr
      simp only [sz_rule, hvs_7, List.cons.injEq, and_true] at hrr hru hrz
      obtain ⟨m0, m1, m2, m3, m4, m5, m6⟩ := hrr
      have m6 : Go.Ev.hv h' rb (ro + bodN (q.take i) * 7 + 6) = .int .i64 i := m6
      subst hx2
      have hback : backB k.1 k.2.1 k.2.2.1 (bodN (q.take i) : Nat) = (chainF c, 0) := by
        unfold backB at?
        rw [if_pos (by omega), Int.toNat_natCast, hr1]
        simp only
        rw [hk]; exact hr2
      simp (disch := first | omega | (simp only [zz]; try omega; done)) only [↓reduceIte, go_sem, klRound_L1, e5, e7, e9, e10, X.B5.at, X.B5.2.1, X.B7.at, X.B7.2.1, hlt, l3, eq_false (show ¬ (c.2.length : Int) = 0 by have := List.length_pos_iff.2 hc0; omega), eq_false (show ¬ (k.2.2.1.length : Int) ≤ (bodN (q.take i) : Nat) by omega), hnl, m6]
      refine effS_call (.inr (.inr (.inr (.inl ⟨rfl, u', _, _, _, _, _, k.1, k.2.1, k.2.2.1, rfl, X.i0, X.i1, X.i2, hrl, fun u6 h6 l6 s6 hr6 => ⟨by simp (disch := first | omega | (simp only [zz]; try omega; done)) only [go_sem], ?_⟩⟩))))
      rw [hback] at hr6 ⊢
      have hr6k := hr6
      rw [rep_clause] at hr6
      obtain ⟨vc, vd, rfl, ic, id⟩ := hr6
      obtain ⟨ca, cc, rfl, -, -⟩ := ic.sl
      obtain ⟨da, dc, rfl, -, -⟩ := id.sl
      have s7 := Step.push0 S0 u6 h6 #[str (chainF c).1.1, .slice ca (chainF c).1.2.1.length cc, .int .i64 (chainF c).1.2.2, .slice da (chainF c).2.length dc] 48
      have B11 := Blk.new (u := u6) (h := h6) [str (chainF c).1.1, .slice ca (chainF c).1.2.1.length cc, .int .i64 (chainF c).1.2.2, .slice da (chainF c).2.length dc] 48
      have s67 := s6.trans0 s7
      have X7 := X.step0 s67
      have hrc7 := Rep.mono s67.ge hprs
      have hrk7 := Rep.mono s7.ge hr6k
      have b57 := X7.B5.1
      have l07 : Go.Ev.hv h' pb (po + i * 4) = str c.1.1 := l0
      have hz6 := s6.ge.sz
      have X6 := X.step0 s6
      have b56 := X6.B5.1
      have hq6 := X6.hq
      obtain ⟨pb', po', hpe, hpb7, hpu7, hpz7, hpr7⟩ := hq6.row i c hs
      cases hpe
      rw [rep_clause] at hpr7
      obtain ⟨va7, vb7, hpr7, hh7, hbd7⟩ := hpr7
      obtain ⟨ha7, hc7, rfl, -, -⟩ := hh7.sl
      obtain ⟨ba7, bc7, rfl, -, -⟩ := hbd7.sl
      have hprs7 := Rep.mono s7.ge (rep_clause.mpr ⟨_, _, rfl, hh7, hbd7⟩ : Rep.rep u6 h6 c [str c.1.1, .slice ha7 c.1.2.1.length hc7, .int .i64 c.1.2.2, .slice ba7 c.2.length bc7])
      simp only [sz_clause, hvs_4, List.cons.injEq, and_true] at hpr7 hpu7 hpz7
      obtain ⟨n0, n1, n2, n3⟩ := hpr7
      have b11 := B11.1
      simp (disch := first | omega | (simp only [zz]; try omega; done)) only [↓reduceIte, go_sem, e5, e10, X6.B5.at, X6.B5.2.1, hlt, n0, n1, n2, n3]
      have hx8 : ∀ x ∈ c.2, x.2.1.2.1.length ≤ 1048576 := fun x hx => Nat.le_trans (lit_args ((clause_parts hcn.w).2 x hx)) (by decide)
      refine effS_call (.inr (.inr (.inr (.inr (.inl ⟨rfl, _, c, _, rfl, hprs7, Nat.le_trans (atomW_few (clause_parts hcn.w).1) (by decide), Nat.le_trans (clause_16 hcn.w) (by decide), hx8, fun u8 h8 l8 s8 hr8 => ?_⟩)))))
      have C11 := B11.step0 s8
      have c11 := C11.1
      refine ⟨by simp (disch := first | omega | (simp only [zz]; try omega; done)) only [↓reduceIte, go_sem, B11.at, C11.at, C11.2.1], ?_⟩
      simp (disch := first | omega | (simp only [zz]; try omega; done)) only [↓reduceIte, go_sem]
      refine effS_call (.inr (.inr (.inr (.inr (.inr (.inl ⟨rfl, u8, chainF c, [str (chainF c).1.1, .slice ca (chainF c).1.2.1.length cc, .int .i64 (chainF c).1.2.2, .slice da (chainF c).2.length dc], l8, rfl, Rep.mono s8.ge hrk7, hr8, fun u9 h9 s9 => ⟨by simp (disch := first | omega | (simp only [zz]; try omega; done)) only [go_sem], ?_⟩⟩))))))
      have s79 := s8.trans0 s9
      simp (disch := first | omega | (simp only [zz]; try omega; done)) only [↓reduceIte, go_sem, e9, e10]
      refine ⟨i + 1, ?_, by omega⟩
      rw [hI]
      exact ⟨by simp [upd, e5], by simp [upd, e6], by simp [upd, e7], by rw [hbs]; simp [upd], by simp [upd], hlt, u9, st.trans0 (s67.trans0 s79), X.step0 (s67.trans0 s79)⟩
  · obtain rfl : i = q.length := by omega
    rw [List.take_length] at e9
    simp (disch := first | omega | (simp only [zz]; try omega; done)) only [↓reduceIte, go_sem, klRound_L1, e5, e6, e10, X.B5.at, X.B5.2.1]
    have hqa : ∀ c ∈ q, c.1.2.1.length ≤ 1048576 := fun c hc => Nat.le_trans (atomW_few (clause_parts (hqn.1 c hc).w).1) (by decide)
    have hga : ∀ a ∈ g, a.2.1.length ≤ 1048576 := fun a ha => Nat.le_trans (atomW_few (grB_w (hgn.1 a ha).g)) (by decide)
    refine effS_call (.inr (.inr (.inr (.inr (.inr (.inr (.inl ⟨rfl, u', _, _, q, g, rfl, X.hq, X.hg, Nat.le_trans hqn.2 (by decide), Nat.le_trans hgn.2 (by decide), hqa, hga, fun u6 h6 v6 s6 hv6 => ⟨by simp (disch := first | omega | (simp only [zz]; try omega; done)) only [go_sem], ?_⟩⟩)))))))
    obtain ⟨W, hW⟩ : ∃ W, W = initF q g := ⟨_, rfl⟩
    rw [← hW] at hv6
    obtain ⟨wa, wc, rfl, w1, w2⟩ := hv6.sl
    obtain ⟨bs, hb1, hb2, hb3⟩ := round_facts (q := q) (g := g) hqn.1 hgn.1
    rw [← hk] at hb1
    rw [← hW] at hb2
    have hlen : k.2.2.2.length = W.length := by rw [hb1, hb2, List.length_map, List.length_map]
    have hPn := psF_n (q := q) (g := g) hqn.1 hgn.1
    have X6 := X.step0 s6
    have st6 := st.trans0 s6
    have b7' := X6.B7.1
    simp (disch := first | omega | (simp only [zz]; try omega; done)) only [↓reduceIte, go_sem, e7, e9, X6.B7.at, X6.B7.2.1, hcnt, hlen]
    clear hI e5 e6 e9 e10 s6 st X b5 b7
    obtain ⟨J, hJ⟩ : ∃ J : Nat → Env → H → Prop, J = fun i σ h' => σ 7 = .pointer (some ⟨p7, 0, none⟩) ∧ σ 13 = .slice wa W.length wc ∧ σ 14 = .int .i64 i ∧ i ≤ W.length ∧
      ∃ u' : U, Step S0 u h u' h' ∧ RdX u' h' p5 p7 ra ga x0 x1 x2 x3 rc gc y0 y1 y2 y3 q g k ∧ IsSl u' h' (.slice wa W.length wc) W := ⟨_, rfl⟩
    refine wpS_loop J (fun i => W.length - i) 0 (by rw [hJ]; exact ⟨by simp [upd, e7], by simp [upd], by simp [upd], Nat.zero_le _, u6, st6, X6, hv6⟩) ?_
    clear e7 X6 st6 hv6 b7'
    intro i σ h1 hy
    rw [hJ] at hy
    obtain ⟨e7, e13, e14, hi, u1, st, X, hw⟩ := hy
    have b7 := X.B7.1
    by_cases hjt : i < W.length
    · obtain ⟨b, hbb⟩ : ∃ b, bs[i]? = some b := ⟨bs[i]'(by rw [hb2, List.length_map] at hjt; exact hjt), by rw [hb2, List.length_map] at hjt; simp [hjt]⟩
      have hWi : W[i]? = some (factOf b) := by rw [hb2, List.getElem?_map, hbb]; rfl
      have hRi : k.2.2.2[i]? = some (rowF (psF q g) (csF q g) b) := by rw [hb1, List.getElem?_map, hbb]; rfl
      have hfb : factB k.1 k.2.1 (rowF (psF q g) (csF q g) b) = (factOf b, 0) := by
        have := fact_back (C := csF q g) hPn (hb3 b (List.mem_of_getElem? hbb))
        rw [hk]; exact this
      obtain ⟨R, hR⟩ : ∃ R, R = rowF (psF q g) (csF q g) b := ⟨_, rfl⟩
      have hRl : R.2.length ≤ 1048576 := by
        rw [hR]
        show (b.2.1.map _).length ≤ 1048576
        rw [List.length_map]
        obtain ⟨-, -, hl8, -⟩ := (hb3 b (List.mem_of_getElem? hbb)).n
        omega
      rw [← hR] at hRi hfb
      have hi3 := X.i3
      obtain ⟨qb, qo, hx3, hqb, hqu, hqz, hqr⟩ := hi3.row i R hRi
      rw [rep_row] at hqr
      obtain ⟨rv, hqr, hrv⟩ := hqr
      obtain ⟨za, zc, rfl, -, -⟩ := hrv.sl
      simp only [sz_row, hvs_2, List.cons.injEq, and_true] at hqr hqu hqz
      obtain ⟨n0, n1⟩ := hqr
      subst hx3
      simp (disch := first | omega | (simp only [zz]; try omega; done)) only [↓reduceIte, go_sem, klRound_L2, e13, e14, hjt]
      obtain ⟨M, hM⟩ : ∃ M : Env → H → Prop, M = fun σ' h2 => σ' 7 = .pointer (some ⟨p7, 0, none⟩) ∧ σ' 13 = .slice wa W.length wc ∧ σ' 14 = .int .i64 i ∧ σ' 16 = .int .i64 0 ∧ ∃ (u2 : U) (p15 : Nat) (l : List Value), Step S0 u1 h1 u2 h2 ∧ σ' 15 = .pointer (some ⟨p15, 0, none⟩) ∧ Blk u2 h2 p15 l ∧ Rep.rep u2 h2 (factOf b) l := ⟨_, rfl⟩
      refine w_join M ?_ ?_
      · simp (disch := first | omega | (simp only [zz]; try omega; done)) only [↓reduceIte, go_sem, w_both, e7, e14, X.B7.at, X.B7.2.1, hlen, hjt, n0, n1]
        have sZ := Step.push0 S0 u1 h1 #[str [], .slice none 0 0] 75
        have Z := Blk.new (u := u1) (h := h1) [str [], .slice none 0 0] 75
        have XZ := X.step0 sZ
        refine ⟨effS_call (.inr (.inr (.inr (.inr (.inr (.inr (.inr (.inl ⟨rfl, u1, _, _, _, _, _, k.1, k.2.1, R, rfl, X.i0, X.i1, hrv, hRl, fun u2 h2 l2 s2 hr2 => ⟨by simp (disch := first | omega | (simp only [zz]; try omega; done)) only [go_sem], ?_⟩⟩)))))))), effS_call (.inr (.inr (.inr (.inr (.inr (.inr (.inr (.inl ⟨rfl, ub u1 h1.size 0, _, _, _, _, _, k.1, k.2.1, R, rfl, XZ.i0, XZ.i1, hrv.mono sZ.ge, hRl, fun u2 h2 l2 s2 hr2 => ⟨by simp (disch := first | omega | (simp only [zz]; try omega; done)) only [go_sem], ?_⟩⟩))))))))⟩
        · rw [hfb] at hr2 ⊢
          have hrk := hr2
          rw [rep_fact] at hr2
          obtain ⟨vf, rfl, hvf⟩ := hr2
          obtain ⟨fa', fc', rfl, -, -⟩ := hvf.sl
          have sN := Step.push0 S0 u2 h2 #[str (factOf b).1, .slice fa' (factOf b).2.length fc'] 75
          simp (disch := first | omega | (simp only [zz]; try omega; done)) only [↓reduceIte, go_sem]
          rw [hM]
          exact ⟨by simp [upd, e7], by simp [upd, e13], by simp [upd, e14], by simp [upd], _, h2.size, _, s2.trans0 sN, by simp [upd], Blk.new [str (factOf b).1, .slice fa' (factOf b).2.length fc'] _, Rep.mono sN.ge hrk⟩
        · rw [hfb] at hr2 ⊢
          have hrk := hr2
          rw [rep_fact] at hr2
          obtain ⟨vf, rfl, hvf⟩ := hr2
          obtain ⟨fa', fc', rfl, -, -⟩ := hvf.sl
          have Z2 := Z.step0 s2
          have sw := Z2.stepSets (l := [str (factOf b).1, .slice fa' (factOf b).2.length fc']) rfl
          have E2 := Z2.sets (l := [str (factOf b).1, .slice fa' (factOf b).2.length fc']) rfl
          simp (disch := first | omega | (simp only [zz]; try omega; done)) only [↓reduceIte, go_sem, Z2.2.1, Z2.2.2.1]
          rw [hM]
          exact ⟨by simp [upd, e7], by simp [upd, e13], by simp [upd, e14], by simp [upd], _, h1.size, _, (sZ.trans0 s2).own sw (fun j e => by have e : j = h1.size := e; omega), by simp [upd], E2, Rep.mono sw.ge hrk⟩
      · intro σ' h2 hM2
        rw [hM] at hM2
        obtain ⟨f7, f13, f14, f16, u2, p15, l, s2, f15, B15, hr2⟩ := hM2
        have b15 := B15.1
        have hw2 := hw.mono s2.ge
        have hw2k := hw2
        have hrk := hr2
        rw [rep_fact] at hr2
        obtain ⟨vf, rfl, hvf⟩ := hr2
        obtain ⟨fa', fc', rfl, -, -⟩ := hvf.sl
        obtain ⟨tb, to, rfl, htb, htu, htz, htr⟩ := hw2k.row i (factOf b) hWi
        have htrs := htr
        rw [rep_fact] at htr
        obtain ⟨vt, htr, hvt⟩ := htr
        obtain ⟨ta, tc, rfl, -, -⟩ := hvt.sl
        rw [htr] at htrs
        simp only [sz_factE, hvs_2, List.cons.injEq, and_true] at htr htu htz
        obtain ⟨r0, r1⟩ := htr
        simp (disch := first | omega | (simp only [zz]; try omega; done)) only [↓reduceIte, go_sem, f13, f14, f15, f16, B15.at, B15.2.1, hjt, r0, r1]
        refine effS_call (.inr (.inr (.inr (.inr (.inr (.inr (.inr (.inr ⟨rfl, u2, factOf b, factOf b, _, _, rfl, hrk, htrs, fun u3 h3 s3 => ⟨by simp (disch := first | omega | (simp only [zz]; try omega; done)) only [go_sem], ?_⟩⟩))))))))
        rw [decide_eq_true rfl]
        simp (disch := first | omega | (simp only [zz]; try omega; done)) only [↓reduceIte, go_sem, f14, f16]
        refine ⟨i + 1, ?_, by omega⟩
        rw [hJ]
        exact ⟨by simp [upd, f7], by simp [upd, f13], by simp [upd], hjt, u3, st.trans0 (s2.trans0 s3), X.step0 (s2.trans0 s3), hw2.mono s3.ge⟩
    · obtain rfl : i = W.length := by omega
      simp (disch := first | omega | (simp only [zz]; try omega; done)) only [↓reduceIte, go_sem, klRound_L2, e13, e14]
      exact st.ext
end Go.Proofs.Ytkobamedfbgjbaa
