/- core.Back. -/
import Derived.Test.YtkobamedfbgjbaaVars
namespace Go.Proofs.Ytkobamedfbgjbaa
open Go Go.Ev Edict
def GL (lost : Bool) (head : Option Atom) (hd : Atom) (parts : List (Option Literal)) (j : Nat) (body : List Literal) : Prop :=
  (lost = false → head = some hd ∧ mapS id (parts.take j) = some body) ∧ (lost = true → head = none ∨ mapS id (parts.take j) = none)
theorem GL.next {lost : Bool} {head : Option Atom} {hd : Atom} {parts : List (Option Literal)} {j : Nat} {body : List Literal} {x : Option Literal} {d : Literal} (g : GL lost head hd parts j body) (hx : parts[j]? = some x) (hd' : ∀ y, x = some y → d = y) : GL (lost || x.isNone) head hd parts (j + 1) (body ++ [d]) := by
  refine ⟨fun h => ?_, fun h => ?_⟩
  · rw [Bool.or_eq_false_iff] at h
    obtain ⟨g1, g2⟩ := g.1 h.1
    cases x with
    | none => simp at h
    | some y => exact ⟨g1, by rw [mapS_snoc hx, g2, hd' y rfl]; rfl⟩
  · rw [mapS_snoc hx]
    cases x with
    | none => right; cases mapS id (parts.take j) <;> rfl
    | some y =>
      rcases g.2 (by simpa using h) with h | h
      · exact .inl h
      · right; rw [h]; rfl
theorem GL.done {lost : Bool} {ps : List Pred} {cs : List Const} {r : Rule} {hd : Atom} {body : List Literal} (g : GL lost (atomB ps cs r.2.2.2.2.1 r.1) hd (partsB ps cs r) (partsB ps cs r).length body) :
    ruleB ps cs r = if lost then ((([], [], 0), []), 2) else ((hd, body), 0) := by
  unfold ruleB
  rw [GL, List.take_length] at g
  cases lost with
  | false =>
    obtain ⟨g1, g2⟩ := g.1 rfl
    rw [g1, g2]; rfl
  | true =>
    rcases g.2 rfl with h | h
    · rw [h]; rfl
    · rw [h]; cases atomB ps cs r.2.2.2.2.1 r.1 <;> rfl
theorem testB_isNone {cs : List Const} {vars : List (List UInt8)} {t : Test} : (testB cs vars t).isNone = ((termB cs vars t.2.1).isNone || (termB cs vars t.2.2).isNone) := by
  unfold testB; cases termB cs vars t.2.1 <;> cases termB cs vars t.2.2 <;> rfl
theorem litB_isNone {k : Int} {ps : List Pred} {cs : List Const} {vars : List (List UInt8)} {p : Pattern} : (litB k ps cs vars p).isNone = (atomB ps cs vars p).isNone := by
  unfold litB; simp
def G_crBack : Ctr := fun f vs h K _ => (f = 40 ∧ C_crTerm vs h K) ∨ (f = 39 ∧ C_crAtom vs h K)
theorem G_crBack_ok : GOk Try.prog G_crBack := by
  rintro f vs h K KP (⟨rfl, hC⟩ | ⟨rfl, hC⟩)
  · exact crTerm_ok hC
  · exact crAtom_ok hC
theorem crBack_ok {vs : List Value} {h : H} {K : Value → H → Prop} {KP : List PanicEntry → H → Prop} (hC : C_back vs h K) : HCX Try.prog 17 vs h K KP := by
  obtain ⟨u, c0, c1, c2, c3, rule, ps, cs, rules, rfl, hp, hc, hr, hbk, hK⟩ := hC
  refine crBack_H G_crBack G_crBack_ok _ _ ?_
  obtain ⟨ra, rc, rfl, -, -⟩ := hr.sl
  obtain ⟨pa0, pn0, rfl, -, -⟩ := hp.sl
  obtain ⟨ca0, cn0, rfl, -, -⟩ := hc.sl
  by_cases hx : 0 ≤ rule ∧ rule < rules.length
  · obtain ⟨n, rfl⟩ := Int.eq_ofNat_of_zero_le hx.1
    obtain ⟨r, hx1, hx2⟩ := at_some hx.1 hx.2
    obtain ⟨b, o, rfl, hb, hu, hz, hrr⟩ := hr.row n r hx2
    obtain ⟨w0, w1, w2, w3, w4, hcells, i0, i1, i2, i3, i4⟩ := (by rw [rep_rule] at hrr; exact hrr)
    simp only [sz_rule, hvs_7, List.cons.injEq, and_true] at hcells hu hz
    obtain ⟨y0, y1, y2, y3, y4, y5, y6⟩ := hcells
    have hlt : n < rules.length := by omega
    obtain ⟨z1, z2, z3, z4, z5, z6⟩ := hbk r (List.mem_of_getElem? hx2)
    simp only [backB, hx1] at hK
    obtain ⟨a0, n0, rfl, -, -⟩ := i0.sl
    obtain ⟨a1, n1, rfl, -, -⟩ := i1.sl
    obtain ⟨a2, n2, rfl, -, -⟩ := i2.sl
    obtain ⟨a3, n3, rfl, -, -⟩ := i3.sl
    obtain ⟨a4, n4, rfl, -, -⟩ := i4.sl
    simp (disch := first | omega | (simp only [zz]; try omega; done)) only [↓reduceIte, go_sem, crBack_S, crBack_E, Nat.not_le.2 hlt, y0, y1, y2, y3, y4, y5, y6, hlt, hz]
    refine effS_call (.inr ⟨rfl, _, h.size + 1 + 1 + 1, _, _, .slice (some ⟨b, o, none⟩) rules.length rc, c3, _, _, false, ps, cs, r.2.2.2.2.1, r.1, rfl, ?_, hp.mono (Step.ge (S := S0) (by repeat (first | exact Step.refl _ _ _ | assumption | apply Step.pushR))), hc.mono (Step.ge (S := S0) (by repeat (first | exact Step.refl _ _ _ | assumption | apply Step.pushR))), i4.mono (Step.ge (S := S0) (by repeat (first | exact Step.refl _ _ _ | assumption | apply Step.pushR))), i0.mono (Step.ge (S := S0) (by repeat (first | exact Step.refl _ _ _ | assumption | apply Step.pushR))), z1, fun u2 h2 l hd s2 R2 hhd hl => ⟨by simp (disch := first | omega | (simp only [zz]; try omega; done)) only [go_sem], ?_⟩⟩)
    · exact (Blk.mk (by simp only [e_psz]; omega) (by simp (disch := first | omega | (simp only [zz]; try omega; done)) only [go_sem]) (by simp (disch := first | omega | (simp only [zz]; try omega; done)) only [go_sem]) (by repeat (first | (refine ub_at ?_; simp only [e_psz]; done) | apply ub_zero)) (by simp (disch := first | omega | (simp only [zz]; try omega; done)) only [go_sem]))
    rw [rep_atom] at hl
    obtain ⟨hv, rfl, hvs⟩ := hl
    obtain ⟨hva, hvc, rfl, -, -⟩ := hvs.sl
    have s02 : Step (fun i => i = h.size + 1 + 1 + 1) u h u2 h2 := Step.trans (S2 := fun i => i = h.size + 1 + 1 + 1) (by repeat (first | exact Step.refl _ _ _ | assumption | apply Step.pushR)) s2 (fun _ _ h => h)
    have s03 : Step S0 u h u2 h2 := s02.mono (fun i hi e => by omega)
    have B0 : Blk u2 h2 h.size [.slice pa0 ps.length pn0, .slice ca0 cs.length cn0, .slice (some ⟨b, o, none⟩) rules.length rc, c3] := Blk.step (Blk.mk (by simp only [e_psz]; omega) (by simp (disch := first | omega | (simp only [zz]; try omega; done)) only [go_sem]) (by simp (disch := first | omega | (simp only [zz]; try omega; done)) only [go_sem]) (by repeat (first | (refine ub_at ?_; simp only [e_psz]; done) | apply ub_zero)) (by simp (disch := first | omega | (simp only [zz]; try omega; done)) only [go_sem])) s2 (by omega)
    have B1 : Blk u2 h2 (h.size + 1) [str [], .slice none 0 0, .int .i64 0, .slice none 0 0] := Blk.step (Blk.mk (by simp only [e_psz]; omega) (by simp (disch := first | omega | (simp only [zz]; try omega; done)) only [go_sem]) (by simp (disch := first | omega | (simp only [zz]; try omega; done)) only [go_sem]) (by repeat (first | (refine ub_at ?_; simp only [e_psz]; done) | apply ub_zero)) (by simp (disch := first | omega | (simp only [zz]; try omega; done)) only [go_sem])) s2 (by omega)
    have B2 : Blk u2 h2 (h.size + 1 + 1) [.int .i64 r.1.1, .slice a0 r.1.2.length n0, .slice a1 r.2.1.length n1, .slice a2 r.2.2.1.length n2, .slice a3 r.2.2.2.1.length n3, .slice a4 r.2.2.2.2.1.length n4, .int .i64 r.2.2.2.2.2] := Blk.step (Blk.mk (by simp only [e_psz]; omega) (by simp (disch := first | omega | (simp only [zz]; try omega; done)) only [go_sem]) (by simp (disch := first | omega | (simp only [zz]; try omega; done)) only [go_sem]) (by repeat (first | (refine ub_at ?_; simp only [e_psz]; done) | apply ub_zero)) (by simp (disch := first | omega | (simp only [zz]; try omega; done)) only [go_sem])) s2 (by omega)
    have hs2 : h.size + 4 ≤ h2.size := by have := s2.ge.sz; simp only [e_psz] at this; omega
    simp only [Bool.false_or] at R2
    simp (disch := first | omega | (simp only [zz]; try omega; done)) only [↓reduceIte, go_sem, B2.at, B2.2.1]
    obtain ⟨I1, hI1⟩ : ∃ I : (Nat × List Literal × Bool) → Env → H → Prop, I = fun y σ h' => σ 4 = .pointer (some ⟨h.size + 1, 0, none⟩) ∧ σ 6 = .pointer (some ⟨h.size + 1 + 1, 0, none⟩) ∧ σ 7 = .pointer (some ⟨h.size + 1 + 1 + 1, 0, none⟩) ∧ σ 8 = .pointer (some ⟨h2.size, 0, none⟩) ∧
        σ 41 = .slice a1 r.2.1.length n1 ∧ σ 42 = .int .i64 r.2.1.length ∧ σ 43 = .int .i64 y.1 ∧ y.1 ≤ r.2.1.length ∧ GL y.2.2 (atomB ps cs r.2.2.2.2.1 r.1) hd (partsB ps cs r) (0 + y.1) y.2.1 ∧ y.2.1.length ≤ 0 + y.1 ∧
        ∃ u' bv, BackI h.size h2.size u h [.int .i64 r.1.1, .slice a0 r.1.2.length n0, .slice a1 r.2.1.length n1, .slice a2 r.2.2.1.length n2, .slice a3 r.2.2.2.1.length n3, .slice a4 r.2.2.2.2.1.length n4, .int .i64 r.2.2.2.2.2] [.slice pa0 ps.length pn0, .slice ca0 cs.length cn0, .slice (some ⟨b, o, none⟩) rules.length rc, c3] hd u' h' bv y.2.1 ∧ Blk u' h' (h.size + 1 + 1 + 1) [.slice pa0 ps.length pn0, .slice ca0 cs.length cn0, .slice (some ⟨b, o, none⟩) rules.length rc, c3, .slice a4 r.2.2.2.2.1.length n4, .bool y.2.2] := ⟨_, rfl⟩
    refine wpS_loop I1 (fun y => r.2.1.length - y.1) (0, [], (atomB ps cs r.2.2.2.2.1 r.1).isNone) (by
      rw [hI1]
      refine ⟨by simp [upd], by simp [upd], by simp [upd], by simp [upd], by simp [upd], by simp [upd], by simp [upd], Nat.zero_le _, ⟨fun h => ?_, fun h => .inl (by simpa using h)⟩, Nat.le_refl _, _, _, ⟨(by repeat (first | exact Step.refl _ _ _ | assumption | apply Step.pushR)), (by repeat (first | assumption | apply Blk.pushR)), (by repeat (first | assumption | apply Blk.pushR)), (by repeat (first | assumption | apply Blk.pushR)), ⟨.slice hva hd.2.1.length hvc, (Blk.mk (by simp only [e_psz]; omega) (by simp (disch := first | omega | (simp only [zz]; try omega; done)) only [go_sem]) (by simp (disch := first | omega | (simp only [zz]; try omega; done)) only [go_sem]) (by repeat (first | (refine ub_at ?_; simp only []; done) | apply ub_zero)) (by simp (disch := first | omega | (simp only [zz]; try omega; done)) only [go_sem])), ?_⟩, .nil _ _ _, Nat.le_refl _, by omega, by simp only [e_psz]; omega⟩, (by repeat (first | assumption | apply Blk.pushR))⟩
      · cases ha : atomB ps cs r.2.2.2.2.1 r.1 with
        | none => rw [ha] at h; cases h
        | some a => exact ⟨by rw [hhd a ha], rfl⟩
      · exact hvs.mono (Step.ge (S := S0) (by repeat (first | exact Step.refl _ _ _ | assumption | apply Step.pushR)))) ?_
    intro ⟨i, body, lost⟩ σ h' hy
    rw [hI1] at hy
    obtain ⟨e4, e6, e7, e8, es, el, ei, hi, hg, hbl, u', bv, B, R⟩ := hy
    simp only at ei hi hg hbl B R
    obtain ⟨av, q1, q2⟩ := B.bq
    have hsz' := B.hs
    have hqq := B.hq
    have hR : ∀ i, i = h.size + 1 + 1 + 1 → i ≠ h.size ∧ i ≠ h.size + 1 ∧ i ≠ h.size + 1 + 1 ∧ i ≠ h2.size ∧ h.size ≤ i ∧ ¬ OwnB bv i := fun i e => by
      subst e
      exact ⟨by omega, by omega, by omega, by omega, by omega, fun ho => by have := B.ho.ge ho; omega⟩
    by_cases hlt2 : i < r.2.1.length
    · obtain ⟨p, hs⟩ : ∃ p, r.2.1[i]? = some p := ⟨r.2.1[i], by simp [hlt2]⟩
      obtain ⟨pb, po, rfl, hpb, hpu, hpz, hpr⟩ := (i1.mono B.st.ge).row i p hs
      rw [rep_pattern] at hpr
      obtain ⟨pv, hpr, hpv⟩ := hpr
      obtain ⟨pva, pvc, rfl, -, -⟩ := hpv.sl
      simp only [sz_pattern, hvs_2, List.cons.injEq, and_true] at hpr hpu hpz
      have hz1 : po + i * 2 + 2 ≤ hsz h' pb := by omega
      simp (disch := first | omega | (simp only [zz]; try omega; done)) only [↓reduceIte, go_sem, crBack_L1, e7, e8, es, el, ei, q1.at, q1.2.1, hlt2, hpr.1, hpr.2, hz1]
      have sp := Step.push S0 u' h' #[.int .i64 p.1, .slice pva p.2.length pvc] 56 0
      refine effS_call (.inr ⟨rfl, ub u' h'.size 0, h.size + 1 + 1 + 1, _, _, _, _, _, _, lost, ps, cs, r.2.2.2.2.1, p, rfl, R.step0 sp, (hp.mono B.st.ge).mono sp.ge, (hc.mono B.st.ge).mono sp.ge, (i4.mono B.st.ge).mono sp.ge, hpv.mono sp.ge, z5 p (List.mem_of_getElem? hs), fun u3 h3 l d s3 R3 hd' hl => ?_⟩)
      have s13 : Step (fun i => i = h.size + 1 + 1 + 1) u' h' u3 h3 := (sp.mono (fun _ _ h => h.elim)).trans s3 (fun _ _ h => h)
      have B3 := B.step s13 hR
      have hs3 := B3.hs
      rw [rep_atom] at hl
      obtain ⟨lv, rfl, hlv⟩ := hl
      obtain ⟨lva, lvc, rfl, -, -⟩ := hlv.sl
      obtain ⟨av3, q3, -⟩ := B3.bq
      simp (disch := first | omega | (simp only [zz]; try omega; done)) only [↓reduceIte, go_sem, e8, q1.at, q3.at, q3.2.1]
      refine effS_app1 B3.ho (x := (1, d, 0, (0, 0, [], 0), (0, 0, [], 0), 0)) (by rw [rep_literal]; exact ⟨_, rfl, hlv⟩) rfl rfl B3.hs (by omega) fun a' n' c' u5 h5 ho5 s5 => ⟨by simp (disch := first | omega | (simp only [zz]; try omega; done)) only [go_sem], ?_⟩
      have B5 := B3.app s5 ho5
      have hne : ∀ i, OwnB bv i → h2.size + 1 ≤ i := fun i hi => B3.ho.ge hi
      have q5 := q3.step s5 (fun hB => by have := hne _ hB; omega)
      have R5 := (R3.step s5 (fun hB => by have := hne _ hB; omega)).step (Step.set (S := fun i => i = h2.size) (o := 3) u5 h5 (.slice a' n' c') rfl (by rw [q5.2.2.2.1]; exact Nat.zero_le _)) (by omega)
      simp (disch := first | omega | (simp only [zz]; try omega; done)) only [↓reduceIte, go_sem, e8, ei, q5.2.1, q5.2.2.1]
      refine ⟨(i + 1, body ++ [(1, d, 0, (0, 0, [], 0), (0, 0, [], 0), 0)], lost || (atomB ps cs r.2.2.2.2.1 p).isNone), ?_, by simp only; omega⟩
      rw [hI1]
      have g := hg.next (d := (1, d, 0, (0, 0, [], 0), (0, 0, [], 0), 0)) (by rw [Nat.zero_add]; exact parts_pos hs) (fun y hy => by
        obtain ⟨a, ha, rfl⟩ := Option.map_eq_some_iff.1 hy
        rw [hd' a ha])
      rw [litB_isNone] at g
      exact ⟨by simp [upd, e4], by simp [upd, e6], by simp [upd, e7], by simp [upd, e8], by simp [upd, es], by simp [upd, el], by simp [upd], hlt2, g, by simp only [List.length_append, List.length_singleton]; omega, u5, _, B5, R5⟩
    · obtain rfl : i = r.2.1.length := by omega
      have g2 : GL lost (atomB ps cs r.2.2.2.2.1 r.1) hd (partsB ps cs r) (r.2.1.length + 0) body := by
        have e2 : 0 + r.2.1.length = r.2.1.length + 0 := by omega
        rw [← e2]; exact hg
      simp (disch := first | omega | (simp only [zz]; try omega; done)) only [↓reduceIte, go_sem, crBack_L1, e6, el, ei, B.b2.at, B.b2.2.1]
      obtain ⟨I2, hI2⟩ : ∃ I : (Nat × List Literal × Bool) → Env → H → Prop, I = fun y σ h' => σ 4 = .pointer (some ⟨h.size + 1, 0, none⟩) ∧ σ 6 = .pointer (some ⟨h.size + 1 + 1, 0, none⟩) ∧ σ 7 = .pointer (some ⟨h.size + 1 + 1 + 1, 0, none⟩) ∧ σ 8 = .pointer (some ⟨h2.size, 0, none⟩) ∧
          σ 58 = .slice a2 r.2.2.1.length n2 ∧ σ 59 = .int .i64 r.2.2.1.length ∧ σ 60 = .int .i64 y.1 ∧ y.1 ≤ r.2.2.1.length ∧ GL y.2.2 (atomB ps cs r.2.2.2.2.1 r.1) hd (partsB ps cs r) (r.2.1.length + y.1) y.2.1 ∧ y.2.1.length ≤ r.2.1.length + y.1 ∧
          ∃ u' bv, BackI h.size h2.size u h [.int .i64 r.1.1, .slice a0 r.1.2.length n0, .slice a1 r.2.1.length n1, .slice a2 r.2.2.1.length n2, .slice a3 r.2.2.2.1.length n3, .slice a4 r.2.2.2.2.1.length n4, .int .i64 r.2.2.2.2.2] [.slice pa0 ps.length pn0, .slice ca0 cs.length cn0, .slice (some ⟨b, o, none⟩) rules.length rc, c3] hd u' h' bv y.2.1 ∧ Blk u' h' (h.size + 1 + 1 + 1) [.slice pa0 ps.length pn0, .slice ca0 cs.length cn0, .slice (some ⟨b, o, none⟩) rules.length rc, c3, .slice a4 r.2.2.2.2.1.length n4, .bool y.2.2] := ⟨_, rfl⟩
      refine wpS_loop I2 (fun y => r.2.2.1.length - y.1) (0, body, lost) (by
        rw [hI2]
        exact ⟨by simp [upd, e4], by simp [upd, e6], by simp [upd, e7], by simp [upd, e8], by simp [upd], by simp [upd], by simp [upd], Nat.zero_le _, g2, by simp only; omega, u', bv, B, R⟩) ?_
      intro ⟨i, body, lost⟩ σ h' hy
      rw [hI2] at hy
      obtain ⟨e4, e6, e7, e8, es, el, ei, hi, hg, hbl, u', bv, B, R⟩ := hy
      simp only at ei hi hg hbl B R
      obtain ⟨av, q1, q2⟩ := B.bq
      have hsz' := B.hs
      have hqq := B.hq
      have hR : ∀ i, i = h.size + 1 + 1 + 1 → i ≠ h.size ∧ i ≠ h.size + 1 ∧ i ≠ h.size + 1 + 1 ∧ i ≠ h2.size ∧ h.size ≤ i ∧ ¬ OwnB bv i := fun i e => by
        subst e
        exact ⟨by omega, by omega, by omega, by omega, by omega, fun ho => by have := B.ho.ge ho; omega⟩
      by_cases hlt2 : i < r.2.2.1.length
      · obtain ⟨t, hs⟩ : ∃ t, r.2.2.1[i]? = some t := ⟨r.2.2.1[i], by simp [hlt2]⟩
        obtain ⟨pb, po, rfl, hpb, hpu, hpz, hpr⟩ := (i2.mono B.st.ge).row i t hs
        rw [rep_test] at hpr
        simp only [sz_test, hvs_5, List.cons.injEq, and_true] at hpr hpu hpz
        obtain ⟨t0, t1, t2, t3, t4⟩ := hpr
        have hz1 : po + i * 5 + 5 ≤ hsz h' pb := by omega
        simp (disch := first | omega | (simp only [zz]; try omega; done)) only [↓reduceIte, go_sem, crBack_L2, e7, e8, es, el, ei, q1.at, q1.2.1, hlt2, t0, t1, t2, t3, t4, hz1]
        have sp := Step.push S0 u' h' #[.int .i64 t.1, .bool t.2.1.1, .int .i64 t.2.1.2, .bool t.2.2.1, .int .i64 t.2.2.2] 118 0
        have bT : Blk (ub u' h'.size 0) (h'.push (.cells #[.int .i64 t.1, .bool t.2.1.1, .int .i64 t.2.1.2, .bool t.2.2.1, .int .i64 t.2.2.2] 118)) h'.size [.int .i64 t.1, .bool t.2.1.1, .int .i64 t.2.1.2, .bool t.2.2.1, .int .i64 t.2.2.2] := (Blk.mk (by simp only [e_psz]; omega) (by simp (disch := first | omega | (simp only [zz]; try omega; done)) only [go_sem]) (by simp (disch := first | omega | (simp only [zz]; try omega; done)) only [go_sem]) (by repeat (first | (refine ub_at ?_; simp only []; done) | apply ub_zero)) (by simp (disch := first | omega | (simp only [zz]; try omega; done)) only [go_sem]))
        refine effS_call (.inl ⟨rfl, ub u' h'.size 0, h.size + 1 + 1 + 1, _, _, _, _, _, lost, cs, r.2.2.2.2.1, t.2.1, rfl, R.step0 sp, (hc.mono B.st.ge).mono sp.ge, (i4.mono B.st.ge).mono sp.ge, fun u4 h4 s4 R4 => ?_⟩)
        have s14 : Step (fun i => i = h.size + 1 + 1 + 1) u' h' u4 h4 := (sp.mono (fun _ _ h => h.elim)).trans s4 (fun _ _ h => h)
        have B4 := B.step s14 hR
        have hs4 := B4.hs
        have bT4 := bT.step s4 (by omega)
        obtain ⟨av4, q4, -⟩ := B4.bq
        simp (disch := first | omega | (simp only [zz]; try omega; done)) only [↓reduceIte, go_sem, e7, e8, q1.at, q4.at, q4.2.1, bT4.at, bT4.2.1, Term.enc]
        refine effS_call (.inl ⟨rfl, u4, h.size + 1 + 1 + 1, _, _, _, _, _, _, cs, r.2.2.2.2.1, t.2.2, rfl, R4, hc.mono B4.st.ge, i4.mono B4.st.ge, fun u3 h3 s3 R3 => ?_⟩)
        have B3 := B4.step s3 hR
        have hs3 := B3.hs
        have bT3 := bT4.step s3 (by omega)
        obtain ⟨av3, q3, -⟩ := B3.bq
        simp (disch := first | omega | (simp only [zz]; try omega; done)) only [↓reduceIte, go_sem, e8, q4.at, q3.at, q3.2.1, bT4.at, bT3.at, bT3.2.1, Term.enc]
        refine effS_app1 B3.ho (x := (3, ([], [], 0), t.1, (termB cs r.2.2.2.2.1 t.2.1).getD (0, 0, [], 0), (termB cs r.2.2.2.2.1 t.2.2).getD (0, 0, [], 0), 0)) (by rw [rep_literal]; exact ⟨.slice none 0 0, by simp only [Term.enc, List.cons_append, List.nil_append], .nil _ _⟩) rfl rfl B3.hs (by omega) fun a' n' c' u5 h5 ho5 s5 => ⟨by simp (disch := first | omega | (simp only [zz]; try omega; done)) only [go_sem], ?_⟩
        have B5 := B3.app s5 ho5
        have hne : ∀ i, OwnB bv i → h2.size + 1 ≤ i := fun i hi => B3.ho.ge hi
        have q5 := q3.step s5 (fun hB => by have := hne _ hB; omega)
        have R5 := (R3.step s5 (fun hB => by have := hne _ hB; omega)).step (Step.set (S := fun i => i = h2.size) (o := 3) u5 h5 (.slice a' n' c') rfl (by rw [q5.2.2.2.1]; exact Nat.zero_le _)) (by omega)
        simp (disch := first | omega | (simp only [zz]; try omega; done)) only [↓reduceIte, go_sem, e8, ei, q5.2.1, q5.2.2.1]
        refine ⟨(i + 1, body ++ [(3, ([], [], 0), t.1, (termB cs r.2.2.2.2.1 t.2.1).getD (0, 0, [], 0), (termB cs r.2.2.2.2.1 t.2.2).getD (0, 0, [], 0), 0)], lost || (termB cs r.2.2.2.2.1 t.2.1).isNone || (termB cs r.2.2.2.2.1 t.2.2).isNone), ?_, by simp only; omega⟩
        rw [hI2]
        have g := hg.next (d := (3, ([], [], 0), t.1, (termB cs r.2.2.2.2.1 t.2.1).getD (0, 0, [], 0), (termB cs r.2.2.2.2.1 t.2.2).getD (0, 0, [], 0), 0)) (parts_test hs) (fun y hy => by
          obtain ⟨xa, hxa, hxb⟩ := Option.bind_eq_some_iff.1 hy
          obtain ⟨xb, hxc, rfl⟩ := Option.map_eq_some_iff.1 hxb
          rw [hxa, hxc]; rfl)
        rw [testB_isNone, ← Bool.or_assoc] at g
        exact ⟨by simp [upd, e4], by simp [upd, e6], by simp [upd, e7], by simp [upd, e8], by simp [upd, es], by simp [upd, el], by simp [upd], hlt2, g, by simp only [List.length_append, List.length_singleton]; omega, u5, _, B5, R5⟩
      · obtain rfl : i = r.2.2.1.length := by omega
        have g3 : GL lost (atomB ps cs r.2.2.2.2.1 r.1) hd (partsB ps cs r) (r.2.1.length + r.2.2.1.length + 0) body := by
          have e2 : r.2.1.length + r.2.2.1.length = r.2.1.length + r.2.2.1.length + 0 := by omega
          rw [← e2]; exact hg
        simp (disch := first | omega | (simp only [zz]; try omega; done)) only [↓reduceIte, go_sem, crBack_L2, e6, el, ei, B.b2.at, B.b2.2.1]
        obtain ⟨I3, hI3⟩ : ∃ I : (Nat × List Literal × Bool) → Env → H → Prop, I = fun y σ h' => σ 4 = .pointer (some ⟨h.size + 1, 0, none⟩) ∧ σ 6 = .pointer (some ⟨h.size + 1 + 1, 0, none⟩) ∧ σ 7 = .pointer (some ⟨h.size + 1 + 1 + 1, 0, none⟩) ∧ σ 8 = .pointer (some ⟨h2.size, 0, none⟩) ∧
            σ 82 = .slice a3 r.2.2.2.1.length n3 ∧ σ 83 = .int .i64 r.2.2.2.1.length ∧ σ 84 = .int .i64 y.1 ∧ y.1 ≤ r.2.2.2.1.length ∧ GL y.2.2 (atomB ps cs r.2.2.2.2.1 r.1) hd (partsB ps cs r) (r.2.1.length + r.2.2.1.length + y.1) y.2.1 ∧ y.2.1.length ≤ r.2.1.length + r.2.2.1.length + y.1 ∧
            ∃ u' bv, BackI h.size h2.size u h [.int .i64 r.1.1, .slice a0 r.1.2.length n0, .slice a1 r.2.1.length n1, .slice a2 r.2.2.1.length n2, .slice a3 r.2.2.2.1.length n3, .slice a4 r.2.2.2.2.1.length n4, .int .i64 r.2.2.2.2.2] [.slice pa0 ps.length pn0, .slice ca0 cs.length cn0, .slice (some ⟨b, o, none⟩) rules.length rc, c3] hd u' h' bv y.2.1 ∧ Blk u' h' (h.size + 1 + 1 + 1) [.slice pa0 ps.length pn0, .slice ca0 cs.length cn0, .slice (some ⟨b, o, none⟩) rules.length rc, c3, .slice a4 r.2.2.2.2.1.length n4, .bool y.2.2] := ⟨_, rfl⟩
        refine wpS_loop I3 (fun y => r.2.2.2.1.length - y.1) (0, body, lost) (by
          rw [hI3]
          exact ⟨by simp [upd, e4], by simp [upd, e6], by simp [upd, e7], by simp [upd, e8], by simp [upd], by simp [upd], by simp [upd], Nat.zero_le _, g3, by simp only; omega, u', bv, B, R⟩) ?_
        intro ⟨i, body, lost⟩ σ h' hy
        rw [hI3] at hy
        obtain ⟨e4, e6, e7, e8, es, el, ei, hi, hg, hbl, u', bv, B, R⟩ := hy
        simp only at ei hi hg hbl B R
        obtain ⟨av, q1, q2⟩ := B.bq
        have hsz' := B.hs
        have hqq := B.hq
        have hR : ∀ i, i = h.size + 1 + 1 + 1 → i ≠ h.size ∧ i ≠ h.size + 1 ∧ i ≠ h.size + 1 + 1 ∧ i ≠ h2.size ∧ h.size ≤ i ∧ ¬ OwnB bv i := fun i e => by
          subst e
          exact ⟨by omega, by omega, by omega, by omega, by omega, fun ho => by have := B.ho.ge ho; omega⟩
        by_cases hlt2 : i < r.2.2.2.1.length
        · obtain ⟨p, hs⟩ : ∃ p, r.2.2.2.1[i]? = some p := ⟨r.2.2.2.1[i], by simp [hlt2]⟩
          obtain ⟨pb, po, rfl, hpb, hpu, hpz, hpr⟩ := (i3.mono B.st.ge).row i p hs
          rw [rep_pattern] at hpr
          obtain ⟨pv, hpr, hpv⟩ := hpr
          obtain ⟨pva, pvc, rfl, -, -⟩ := hpv.sl
          simp only [sz_pattern, hvs_2, List.cons.injEq, and_true] at hpr hpu hpz
          have hz1 : po + i * 2 + 2 ≤ hsz h' pb := by omega
          simp (disch := first | omega | (simp only [zz]; try omega; done)) only [↓reduceIte, go_sem, crBack_L3, e7, e8, es, el, ei, q1.at, q1.2.1, hlt2, hpr.1, hpr.2, hz1]
          have sp := Step.push S0 u' h' #[.int .i64 p.1, .slice pva p.2.length pvc] 56 0
          refine effS_call (.inr ⟨rfl, ub u' h'.size 0, h.size + 1 + 1 + 1, _, _, _, _, _, _, lost, ps, cs, r.2.2.2.2.1, p, rfl, R.step0 sp, (hp.mono B.st.ge).mono sp.ge, (hc.mono B.st.ge).mono sp.ge, (i4.mono B.st.ge).mono sp.ge, hpv.mono sp.ge, z6 p (List.mem_of_getElem? hs), fun u3 h3 l d s3 R3 hd' hl => ?_⟩)
          have s13 : Step (fun i => i = h.size + 1 + 1 + 1) u' h' u3 h3 := (sp.mono (fun _ _ h => h.elim)).trans s3 (fun _ _ h => h)
          have B3 := B.step s13 hR
          have hs3 := B3.hs
          rw [rep_atom] at hl
          obtain ⟨lv, rfl, hlv⟩ := hl
          obtain ⟨lva, lvc, rfl, -, -⟩ := hlv.sl
          obtain ⟨av3, q3, -⟩ := B3.bq
          simp (disch := first | omega | (simp only [zz]; try omega; done)) only [↓reduceIte, go_sem, e8, q1.at, q3.at, q3.2.1]
          refine effS_app1 B3.ho (x := (2, d, 0, (0, 0, [], 0), (0, 0, [], 0), 0)) (by rw [rep_literal]; exact ⟨_, rfl, hlv⟩) rfl rfl B3.hs (by omega) fun a' n' c' u5 h5 ho5 s5 => ⟨by simp (disch := first | omega | (simp only [zz]; try omega; done)) only [go_sem], ?_⟩
          have B5 := B3.app s5 ho5
          have hne : ∀ i, OwnB bv i → h2.size + 1 ≤ i := fun i hi => B3.ho.ge hi
          have q5 := q3.step s5 (fun hB => by have := hne _ hB; omega)
          have R5 := (R3.step s5 (fun hB => by have := hne _ hB; omega)).step (Step.set (S := fun i => i = h2.size) (o := 3) u5 h5 (.slice a' n' c') rfl (by rw [q5.2.2.2.1]; exact Nat.zero_le _)) (by omega)
          simp (disch := first | omega | (simp only [zz]; try omega; done)) only [↓reduceIte, go_sem, e8, ei, q5.2.1, q5.2.2.1]
          refine ⟨(i + 1, body ++ [(2, d, 0, (0, 0, [], 0), (0, 0, [], 0), 0)], lost || (atomB ps cs r.2.2.2.2.1 p).isNone), ?_, by simp only; omega⟩
          rw [hI3]
          have g := hg.next (d := (2, d, 0, (0, 0, [], 0), (0, 0, [], 0), 0)) (parts_neg hs) (fun y hy => by
            obtain ⟨a, ha, rfl⟩ := Option.map_eq_some_iff.1 hy
            rw [hd' a ha])
          rw [litB_isNone] at g
          exact ⟨by simp [upd, e4], by simp [upd, e6], by simp [upd, e7], by simp [upd, e8], by simp [upd, es], by simp [upd, el], by simp [upd], hlt2, g, by simp only [List.length_append, List.length_singleton]; omega, u5, _, B5, R5⟩
        · obtain rfl : i = r.2.2.2.1.length := by omega
          have g4 : GL lost (atomB ps cs r.2.2.2.2.1 r.1) hd (partsB ps cs r) (r.2.1.length + r.2.2.1.length + r.2.2.2.1.length) body := by
            have e2 : r.2.1.length + r.2.2.1.length + r.2.2.2.1.length = r.2.1.length + r.2.2.1.length + r.2.2.2.1.length := by omega
            rw [← e2]; exact hg
          obtain ⟨qa, qc, rfl, -, -⟩ := q2.sl
          obtain ⟨ba, bc, rfl, -, -⟩ := B.ho.sl
          have f1 := B.b1.sets (l := [str [], .slice none 0 0, .int .i64 0, .slice none 0 0]) rfl
          have f2 := B.b1.sets (l := [str hd.1, .slice qa hd.2.1.length qc, .int .i64 hd.2.2, .slice ba body.length bc]) rfl
          simp (disch := first | omega | (simp only [zz]; try omega; done)) only [↓reduceIte, go_sem, crBack_L3, e4, e7, e8, el, ei, B.b1.2.1, B.b1.2.2.1, f1.at, f1.2.1, f2.at, f2.2.1, q1.at, q1.2.1, R.at, R.2.1]
          have hdn := GL.done (r := r) (by rw [parts_len]; exact g4)
          rw [hdn] at hK
          refine ⟨fun hgt => ?_, fun hgf => ?_⟩
          · simp only [hgt, if_true] at hK
            have s9 : Step (fun i => i = h.size + 1) u' h' u' (hsets h' (h.size + 1) 0 [str [], .slice none 0 0, .int .i64 0, .slice none 0 0]) := Step.sets u' h' _ rfl (by rw [B.b1.2.2.2.1]; exact Nat.zero_le _) (by rw [B.b1.2.1]; exact Nat.le_refl _)
            exact hK _ _ _ (B.st.trans s9 (fun b hb e => by omega)) (by rw [rep_clause]; exact ⟨_, _, rfl, .nil _ _, .nil _ _⟩)
          · simp only [hgf, Bool.false_eq_true, if_false] at hK
            have s9 : Step (fun i => i = h.size + 1) u' h' u' (hsets h' (h.size + 1) 0 [str hd.1, .slice qa hd.2.1.length qc, .int .i64 hd.2.2, .slice ba body.length bc]) := Step.sets u' h' _ rfl (by rw [B.b1.2.2.2.1]; exact Nat.zero_le _) (by rw [B.b1.2.1]; exact Nat.le_refl _)
            exact hK _ _ _ (B.st.trans s9 (fun b hb e => by omega)) (by rw [rep_clause]; exact ⟨_, _, rfl, q2.mono s9.ge, B.ho.isSl.mono s9.ge⟩)
  · simp only [backB, at_none (show rule < 0 ∨ (rules.length : Int) ≤ rule by omega)] at hK
    simp (disch := first | omega | (simp only [zz]; try omega; done)) only [↓reduceIte, go_sem, crBack_S, crBack_E, show rule < 0 ∨ (rules.length : Int) ≤ rule by omega]
    exact hK _ _ _ (by repeat (first | exact Step.refl _ _ _ | assumption | apply Step.pushR)) (by rw [rep_clause]; exact ⟨_, _, rfl, .nil _ _, .nil _ _⟩)
end Go.Proofs.Ytkobamedfbgjbaa
