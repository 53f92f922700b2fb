import Derived.Test.YtkobamedfbgjbaaBackC
import Derived.Test.YtkobamedfbgjbaaVars
section Merged
namespace Edict
def factB (ps : List Pred) (cs : List Const) (r : Row) : Fact × Int := match at? ps r.1 with
  | none => (([], []), 2)
  | some pr => if (r.2.length : Int) = pr.2 then (match mapS (at? cs) r.2 with | some l => ((pr.1, l), 0) | none => (([], []), 2)) else (([], []), 2)
end Edict
namespace Go.Proofs.Ytkobamedfbgjbaa
open Go Go.Ev Edict
def C_fact (vs : List Value) (h : H) (K : Value → H → Prop) : Prop :=
  ∃ (u : U) (c0 c1 c2 c3 rv : Value) (ps : List Pred) (cs : List Const) (r : Row), vs = [.agg #[c0, c1, c2, c3], .agg #[.int .i64 r.1, rv]] ∧ IsSl u h c0 ps ∧ IsSl u h c1 cs ∧ IsSl u h rv r.2 ∧ r.2.length ≤ 1048576 ∧
    ∀ u' h' l, Step S0 u h u' h' → Rep.rep u' h' (factB ps cs r).1 l → K (.tuple #[.agg l.toArray, .int .i64 (factB ps cs r).2]) h'
structure FactI (k : Nat) (u0 : U) (h0 : H) (rc cc : List Value) (nm : List UInt8) (u : U) (h : H) (bv : Value) (body : List Const) : Prop where
  st : Step S0 u0 h0 u h
  b0 : Blk u h k cc
  b1 : Blk u h (k + 1) rc
  b2 : Blk u h (k + 1 + 1) [str [], .slice none 0 0]
  bq : Blk u h (k + 1 + 1 + 1) [str nm, bv]
  ho : Own (k + 4) u h bv body
  hk : h0.size ≤ k
  hs : k + 4 ≤ h.size
theorem FactI.app {k : Nat} {u0 : U} {h0 : H} {rc cc : List Value} {nm : List UInt8} {u u' : U} {h h' : H} {bv bw : Value} {body : List Const} {x : Const} (b : FactI k u0 h0 rc cc nm u h bv body) (s : Step (OwnB bv) u h u' h') (o : Own (k + 4) u' h' bw (body ++ [x])) :
    FactI k u0 h0 rc cc nm u' (hset h' (k + 1 + 1 + 1) 1 bw) bw (body ++ [x]) := by
  have hne : ∀ i, OwnB bv i → k + 4 ≤ i := fun i hi => b.ho.ge hi
  have hk := b.hk
  have c0 := b.b0.step s (fun h => by have := hne _ h; omega)
  have c1 := b.b1.step s (fun h => by have := hne _ h; omega)
  have c2 := b.b2.step s (fun h => by have := hne _ h; omega)
  have cq := b.bq.step s (fun h => by have := hne _ h; omega)
  have s4 : Step (fun i => i = k + 1 + 1 + 1) u' h' u' (hset h' (k + 1 + 1 + 1) 1 bw) := Step.set u' h' _ rfl (by rw [cq.2.2.2.1]; exact Nat.zero_le _)
  exact ⟨(b.st.trans s (fun i hi h => by have := hne _ h; omega)).trans s4 (fun i hi e => by omega), c0.step s4 (by omega), c1.step s4 (by omega), c2.step s4 (by omega), cq.set (i := 1) (by simp),
    o.step s4 (fun i hi e => by have := o.ge hi; omega), hk, by rw [e_ssz]; exact Nat.le_trans b.hs s.ge.sz⟩
theorem crFact_ok {vs : List Value} {h : H} {K : Value → H → Prop} {KP : List PanicEntry → H → Prop} (hC : C_fact vs h K) : HCX Try.prog 21 vs h K KP := by
  obtain ⟨u, c0, c1, c2, c3, rv, ps, cs, ⟨rn, ra⟩, rfl, hp, hc, hr, hlen, hK⟩ := hC
  replace hlen : ra.length ≤ 1048576 := hlen
  replace hr : IsSl u h rv ra := hr
  refine crFact_H (fun _ _ _ _ _ => False) (fun _ _ _ _ _ h => h.elim) _ _ ?_
  obtain ⟨raa, rac, rfl, -, -⟩ := hr.sl
  obtain ⟨psa, psc, rfl, -, -⟩ := hp.sl
  obtain ⟨ca, cc, rfl, -, -⟩ := hc.sl
  by_cases hx : 0 ≤ rn ∧ rn < ps.length
  · obtain ⟨n, rfl⟩ := Int.eq_ofNat_of_zero_le hx.1
    obtain ⟨x, hx1, hx2⟩ := at_some hx.1 hx.2
    obtain ⟨b, o, rfl, hb, hu, hz, hrr⟩ := hp.row n x hx2
    simp only [rep_pred, sz_pred, hvs_2, List.cons.injEq, and_true] at hrr hu hz
    have hlt : n < ps.length := by omega
    have hz1 : o + n * 2 + 2 ≤ hsz h b := by omega
    by_cases har : (ra.length : Int) = x.2
    · simp only [factB, hx1, har, if_true] at hK
      simp (disch := first | omega | (simp only [zz]; try omega; done)) only [↓reduceIte, go_sem, crFact_S, crFact_E, Nat.not_le.2 hlt, hrr.1, hrr.2, hlt, eq_true har]
      obtain ⟨I, hI⟩ : ∃ I : (Nat × List Const) → Env → H → Prop, I = fun y σ h' => σ 2 = .pointer (some ⟨h.size, 0, none⟩) ∧ σ 3 = .pointer (some ⟨h.size + 1, 0, none⟩) ∧ σ 4 = .pointer (some ⟨h.size + 1 + 1, 0, none⟩) ∧ σ 6 = .pointer (some ⟨h.size + 1 + 1 + 1, 0, none⟩) ∧ σ 43 = .slice raa ra.length rac ∧ σ 44 = .int .i64 ra.length ∧ σ 45 = .int .i64 y.1 ∧ y.1 ≤ ra.length ∧ mapS (at? cs) (ra.take y.1) = some y.2 ∧
          ∃ u' bv, FactI h.size u h [.int .i64 n, .slice raa ra.length rac] [.slice (some ⟨b, o, none⟩) ps.length psc, .slice ca cs.length cc, c2, c3] x.1 u' h' bv y.2 := ⟨_, rfl⟩
      refine wpS_loop I (fun y => ra.length - y.1) (0, []) (by
        rw [hI]
        exact ⟨by simp [upd], by simp [upd], by simp [upd], by simp [upd], by simp [upd], by simp [upd], by simp [upd], Nat.zero_le _, rfl, _, .slice none 0 0, ⟨(by repeat (first | exact Step.refl _ _ _ | assumption | apply Step.pushR)), (Blk.mk (by simp only [e_psz]; omega) (by simp (disch := first | omega | (simp only [zz]; try omega; done)) only [go_sem]) (by simp (disch := first | omega | (simp only [zz]; try omega; done)) only [go_sem]) (by repeat (first | (refine ub_at ?_; simp only [e_psz]; done) | apply ub_zero)) (by simp (disch := first | omega | (simp only [zz]; try omega; done)) only [go_sem])), (Blk.mk (by simp only [e_psz]; omega) (by simp (disch := first | omega | (simp only [zz]; try omega; done)) only [go_sem]) (by simp (disch := first | omega | (simp only [zz]; try omega; done)) only [go_sem]) (by repeat (first | (refine ub_at ?_; simp only [e_psz]; done) | apply ub_zero)) (by simp (disch := first | omega | (simp only [zz]; try omega; done)) only [go_sem])), (Blk.mk (by simp only [e_psz]; omega) (by simp (disch := first | omega | (simp only [zz]; try omega; done)) only [go_sem]) (by simp (disch := first | omega | (simp only [zz]; try omega; done)) only [go_sem]) (by repeat (first | (refine ub_at ?_; simp only [e_psz]; done) | apply ub_zero)) (by simp (disch := first | omega | (simp only [zz]; try omega; done)) only [go_sem])), (Blk.mk (by simp only [e_psz]; omega) (by simp (disch := first | omega | (simp only [zz]; try omega; done)) only [go_sem]) (by simp (disch := first | omega | (simp only [zz]; try omega; done)) only [go_sem]) (by repeat (first | (refine ub_at ?_; simp only [e_psz]; done) | apply ub_zero)) (by simp (disch := first | omega | (simp only [zz]; try omega; done)) only [go_sem])), .nil _ _ _, Nat.le_refl _, by simp only [e_psz]; omega⟩⟩) ?_
      intro ⟨i, acc⟩ σ h' hy
      rw [hI] at hy
      obtain ⟨e2, e3, e4, e6, es, el, ei, hi, hacc, u', bv, B⟩ := hy
      simp only at ei hi hacc B
      have hsz' := B.hs
      by_cases hlt2 : i < ra.length
      · obtain ⟨d, hs⟩ : ∃ d, ra[i]? = some d := ⟨ra[i], by simp [hlt2]⟩
        obtain ⟨pb, po, rfl, hpb, hpu, hpz, hpr⟩ := (hr.mono B.st.ge).row i d hs
        simp only [rep_int, sz_int, hvs_1, List.cons.injEq, and_true] at hpr hpu hpz
        have hz2 : po + i * 1 < hsz h' pb := by omega
        by_cases hd : 0 ≤ d ∧ d < cs.length
        · obtain ⟨m, rfl⟩ := Int.eq_ofNat_of_zero_le hd.1
          obtain ⟨k, hk1, hk2⟩ := at_some hd.1 hd.2
          obtain ⟨kb, ko, rfl, hkb, hku, hkz, hkr⟩ := (hc.mono B.st.ge).row m k hk2
          simp only [rep_const, sz_const, hvs_3, List.cons.injEq, and_true] at hkr hku hkz
          have hm : m < cs.length := by omega
          simp (disch := first | omega | (simp only [zz]; try omega; done)) only [↓reduceIte, go_sem, crFact_L1, e2, e6, es, el, ei, B.b0.at, B.b0.2.1, B.bq.at, B.bq.2.1, hlt2, hpr, hz2, Nat.not_le.2 hm, hm, hkr.1, hkr.2.1, hkr.2.2, hkz]
          refine effS_app1 B.ho (x := k) (by rw [rep_const]) rfl rfl B.hs (by have := mapS_len hacc; rw [List.length_take] at this; omega) fun a' n' c' u5 h5 ho5 s5 => ⟨by simp (disch := first | omega | (simp only [zz]; try omega; done)) only [go_sem], ?_⟩
          have B5 := B.app s5 ho5
          have q5 := B.bq.step s5 (fun hB => by have := B.ho.ge hB; omega)
          simp (disch := first | omega | (simp only [zz]; try omega; done)) only [↓reduceIte, go_sem, e6, ei, q5.2.1, q5.2.2.1]
          refine ⟨(i + 1, acc ++ [k]), ?_, by simp only; omega⟩
          rw [hI]
          exact ⟨by simp [upd, e2], by simp [upd, e3], by simp [upd, e4], by simp [upd, e6], by simp [upd, es], by simp [upd, el], by simp [upd], hlt2, by rw [mapS_snoc hs, hacc, hk1]; rfl, u5, _, B5⟩
        · have hn : mapS (at? cs) ra = none := mapS_none (i := i + 1) (by rw [mapS_snoc hs, hacc, at_none (show d < 0 ∨ (cs.length : Int) ≤ d by omega)]; rfl)
          simp only [hn] at hK
          have f1 := B.b2.sets (l := [str [], .slice none 0 0]) rfl
          simp (disch := first | omega | (simp only [zz]; try omega; done)) only [↓reduceIte, go_sem, crFact_L1, e2, e4, es, el, ei, B.b0.at, B.b0.2.1, hlt2, hpr, hz2, show d < 0 ∨ (cs.length : Int) ≤ d by omega, B.b2.2.1, B.b2.2.2.1, f1.at, f1.2.1]
          have s9 : Step (fun i => i = h.size + 1 + 1) u' h' u' (hsets h' (h.size + 1 + 1) 0 [str [], .slice none 0 0]) := Step.sets u' h' _ rfl (by rw [B.b2.2.2.2.1]; exact Nat.zero_le _) (by rw [B.b2.2.1]; exact Nat.le_refl _)
          exact hK _ _ _ (B.st.trans s9 (fun b hb e => by omega)) (by rw [rep_fact]; exact ⟨_, rfl, .nil _ _⟩)
      · obtain rfl : i = ra.length := by omega
        rw [List.take_length] at hacc
        simp only [hacc] at hK
        obtain ⟨ba, bc, rfl, -, -⟩ := B.ho.sl
        have f1 := B.b2.sets (l := [str x.1, .slice ba acc.length bc]) rfl
        simp (disch := first | omega | (simp only [zz]; try omega; done)) only [↓reduceIte, go_sem, crFact_L1, e4, e6, el, ei, B.bq.at, B.bq.2.1, B.b2.2.1, B.b2.2.2.1, f1.at, f1.2.1]
        have s9 : Step (fun i => i = h.size + 1 + 1) u' h' u' (hsets h' (h.size + 1 + 1) 0 [str x.1, .slice ba acc.length bc]) := Step.sets u' h' _ rfl (by rw [B.b2.2.2.2.1]; exact Nat.zero_le _) (by rw [B.b2.2.1]; exact Nat.le_refl _)
        exact hK _ _ _ (B.st.trans s9 (fun b hb e => by omega)) (by rw [rep_fact]; exact ⟨_, rfl, B.ho.isSl.mono s9.ge⟩)
    · simp only [factB, hx1, har, if_false] at hK
      simp (disch := first | omega | (simp only [zz]; try omega; done)) only [↓reduceIte, go_sem, crFact_S, crFact_E, Nat.not_le.2 hlt, hrr.2, hlt, eq_false har]
      exact hK _ _ _ (by repeat (first | exact Step.refl _ _ _ | assumption | apply Step.pushR)) (by rw [rep_fact]; exact ⟨_, rfl, .nil _ _⟩)
  · simp only [factB, at_none (show rn < 0 ∨ (ps.length : Int) ≤ rn by omega)] at hK
    by_cases hneg : rn < 0
    · simp (disch := first | omega | (simp only [zz]; try omega; done)) only [↓reduceIte, go_sem, crFact_S, crFact_E, eq_true hneg]
      exact hK _ _ _ (by repeat (first | exact Step.refl _ _ _ | assumption | apply Step.pushR)) (by rw [rep_fact]; exact ⟨_, rfl, .nil _ _⟩)
    · simp (disch := first | omega | (simp only [zz]; try omega; done)) only [↓reduceIte, go_sem, crFact_S, crFact_E, eq_false hneg, eq_true (show (ps.length : Int) ≤ rn by omega)]
      exact hK _ _ _ (by repeat (first | exact Step.refl _ _ _ | assumption | apply Step.pushR)) (by rw [rep_fact]; exact ⟨_, rfl, .nil _ _⟩)
end Go.Proofs.Ytkobamedfbgjbaa
end Merged
section Merged
namespace Go.Proofs.Ytkobamedfbgjbaa
open Go Go.Ev Edict
def C_number (vs : List Value) (h : H) (K : Value → H → Prop) : Prop := ∃ (u : U) (b : Nat) (m : List UInt8 → Option Int) (n : Nat) (s : List UInt8), vs = [.map (some b), str s] ∧ MapB h b m n ∧ n ≤ 4611686018427387904 ∧
  (∀ v, m s = some v → K (.tuple #[.int .i64 v, .bool false]) h) ∧ (m s = none → ∀ h', Step (fun i => i = b) u h u h' → MapB h' b (putm m s n) (n + 1) → K (.tuple #[.int .i64 n, .bool true]) h')
theorem crNumber_ok {vs : List Value} {h : H} {K : Value → H → Prop} {KP : List PanicEntry → H → Prop} (hC : C_number vs h K) : HCX Try.prog 54 vs h K KP := by
  obtain ⟨u, b, m, n, s, rfl, hm, hn, h1, h2⟩ := hC
  refine crNumber_H (fun _ _ _ _ _ => False) (fun _ _ _ _ _ h => h.elim) _ _ ?_
  simp (disch := first | omega | (simp only [zz]; try omega; done)) only [↓reduceIte, go_sem, crNumber_S, crNumber_E]
  refine effS_look hm ⟨by simp (disch := first | omega | (simp only [zz]; try omega; done)) only [go_sem], ?_⟩
  cases hs : m s with
  | some v =>
    simp only [lookV, if_true, Option.isSome_some, Option.getD_some]
    simp (disch := first | omega | (simp only [zz]; try omega; done)) only [↓reduceIte, go_sem]
    exact h1 v hs
  | none =>
    simp only [lookV, if_true, Option.isSome_none, Option.getD_none]
    simp (disch := first | omega | (simp only [zz]; try omega; done)) only [↓reduceIte, go_sem]
    refine effS_lenm hm ⟨by simp (disch := first | omega | (simp only [zz]; try omega; done)) only [go_sem], ?_⟩
    simp (disch := first | omega | (simp only [zz]; try omega; done)) only [↓reduceIte, go_sem]
    refine effS_mput u hm fun h' st hm' => ⟨by simp (disch := first | omega | (simp only [zz]; try omega; done)) only [go_sem], ?_⟩
    rw [hs] at hm'
    simp only [Option.isSome_none, Bool.false_eq_true, if_false] at hm'
    simp (disch := first | omega | (simp only [zz]; try omega; done)) only [↓reduceIte, go_sem]
    refine effS_lenm hm' ⟨by simp (disch := first | omega | (simp only [zz]; try omega; done)) only [go_sem], ?_⟩
    simp (disch := first | omega | (simp only [zz]; try omega; done)) only [↓reduceIte, go_sem]
    have e : ((n + 1 : Nat) : Int) - 1 = n := by omega
    rw [e]
    exact h2 hs h' st hm'
def G_crVars : Ctr := fun f vs h K _ => f = 54 ∧ C_number vs h K
theorem G_crVars_ok : GOk Try.prog G_crVars := by
  rintro f vs h K KP ⟨rfl, hC⟩; exact crNumber_ok hC
def VM (h0 : H) (u0 u : U) (h : H) (v : Value) (vs : Strs) : Prop := ∃ m n, Step S0 u0 h0 u h ∧ MapB h h0.size m n ∧ n ≤ vs.length ∧ (∀ s, (m s).isSome = true ↔ s ∈ vs) ∧ Own (h0.size + 1) u h v vs
theorem crVars_ok {vs : List Value} {h : H} {K : Value → H → Prop} {KP : List PanicEntry → H → Prop} (hC : C_vars vs h K) : HCX Try.prog 59 vs h K KP := by
  obtain ⟨u, v, ls, rfl, hl, hbk, hK⟩ := hC
  obtain ⟨la, lc, rfl, q1, q2⟩ := hl.sl
  have hm := mlen'
  refine crVars_H G_crVars G_crVars_ok _ ?_
  simp (disch := first | omega | (simp only [zz]; try omega; done)) only [go_sem, crVars_S, crVars_E]
  refine effS_mkm u fun u0 h0 s0 hm0 => ⟨by simp (disch := first | omega | (simp only [zz]; try omega; done)) only [go_sem], ?_⟩
  simp (disch := first | omega | (simp only [zz]; try omega; done)) only [↓reduceIte, go_sem]
  obtain ⟨I, hI⟩ : ∃ I : Nat → Env → H → Prop, I = fun i σ h' => σ 4 = .map (some h.size) ∧ σ 12 = .slice la ls.length lc ∧ σ 13 = .int .i64 ls.length ∧ σ 14 = .int .i64 i ∧ i ≤ ls.length ∧ ∃ u', VM h u u' h' (σ 3) (varsF (ls.take i)) := ⟨_, rfl⟩
  refine wpS_loop I (fun i => ls.length - i) 0 (by
    rw [hI]
    exact ⟨by simp [upd], by simp [upd], by simp [upd], by simp [upd], Nat.zero_le _, u0, _, 0, s0, hm0, Nat.zero_le _, fun s => by simp [varsF], by simp only [upd]; exact .nil _ _ _⟩) ?_
  intro i σ h' hy
  rw [hI] at hy
  obtain ⟨e4, e12, e13, e14, hi, u', hvm⟩ := hy
  by_cases hlt : i < ls.length
  · obtain ⟨x, hs⟩ : ∃ x, ls[i]? = some x := ⟨ls[i], by simp [hlt]⟩
    obtain ⟨m, n, st, hmb, hn, hms, ho⟩ := hvm
    obtain ⟨pb, po, rfl, hpb, hpu, hpz, hpr⟩ := (hl.mono st.ge).row i x hs
    rw [rep_literal] at hpr
    obtain ⟨pv, hpr, hpv⟩ := hpr
    obtain ⟨pva, pvc, rfl, r1, r2⟩ := hpv.sl
    simp only [Term.enc, sz_literal, hvs_14, List.cons_append, List.nil_append, List.cons.injEq, and_true] at hpr hpu hpz
    obtain ⟨p0, p1, p2, p3, p4, p5, p6, p7, p8, p9, p10, p11, p12, p13⟩ := hpr
    by_cases hk : x.1 = 1
    · simp (disch := first | omega | (simp only [zz]; try omega; done)) only [↓reduceIte, go_sem, crVars_L1, e12, e13, e14, hlt, p0, p1, p2, p3, p4, p5, p6, p7, p8, p9, p10, p11, p12, p13, eq_true hk]
      have sp : Step S0 u' h' _ _ := Step.push0 S0 u' h' #[.int .i64 x.1, str x.2.1.1, .slice pva x.2.1.2.1.length pvc, .int .i64 x.2.1.2.2, .int .i64 x.2.2.1, .int .i64 x.2.2.2.1.1, .int .i64 x.2.2.2.1.2.1, str x.2.2.2.1.2.2.1, .int .i64 x.2.2.2.1.2.2.2, .int .i64 x.2.2.2.2.1.1, .int .i64 x.2.2.2.2.1.2.1, str x.2.2.2.2.1.2.2.1, .int .i64 x.2.2.2.2.1.2.2.2, .int .i64 x.2.2.2.2.2] 109
      obtain ⟨J, hJ⟩ : ∃ J : Nat → Env → H → Prop, J = fun j σ h' => σ 4 = .map (some h.size) ∧ σ 12 = .slice (some ⟨pb, po, none⟩) ls.length lc ∧ σ 13 = .int .i64 ls.length ∧ σ 14 = .int .i64 i ∧ σ 23 = .slice pva x.2.1.2.1.length pvc ∧ σ 24 = .int .i64 x.2.1.2.1.length ∧ σ 25 = .int .i64 j ∧ j ≤ x.2.1.2.1.length ∧
          ∃ u', IsSl u' h' (.slice pva x.2.1.2.1.length pvc) x.2.1.2.1 ∧ VM h u u' h' (σ 3) ((x.2.1.2.1.take j).foldl varT (varsF (ls.take i))) := ⟨_, rfl⟩
      refine wpS_loop J (fun j => x.2.1.2.1.length - j) 0 (by
        rw [hJ]
        exact ⟨by simp [upd, e4], by simp [upd, e12], by simp [upd, e13], by simp [upd, e14], by simp [upd], by simp [upd], by simp [upd], Nat.zero_le _, _, hpv.mono sp.ge, m, n, st.trans0 sp, hmb.step sp (fun h => h), hn, hms, by simpa [upd] using ho.step0 sp⟩) ?_
      clear ho st hmb hn hms hpv p0 p1 p2 p3 p4 p5 p6 p7 p8 p9 p10 p11 p12 p13 hpz hpu hpb e4 e12 e13 e14 sp
      intro j σ1 h1 hy
      rw [hJ] at hy
      obtain ⟨e4, e12, e13, e14, e23, e24, e25, hj, u1, hpv, m, n, st, hmb, hn, hms, ho⟩ := hy
      have hln := inner_len (j := j) hs
      by_cases hlt2 : j < x.2.1.2.1.length
      · obtain ⟨t, hts⟩ : ∃ t, x.2.1.2.1[j]? = some t := ⟨x.2.1.2.1[j], by simp [hlt2]⟩
        obtain ⟨tb, to, rfl, htb, htu, htz, htr⟩ := hpv.row j t hts
        rw [rep_term] at htr
        simp only [Term.enc, sz_term, hvs_4, List.cons.injEq, and_true] at htr htu htz
        obtain ⟨t0, t1, t2, t3⟩ := htr
        have hsn := fold_snoc (f := varT) (b := varsF (ls.take i)) hts
        obtain ⟨vs0, hvs0⟩ : ∃ vs0, vs0 = (x.2.1.2.1.take j).foldl varT (varsF (ls.take i)) := ⟨_, rfl⟩
        rw [← hvs0] at hsn hln ho hn hms
        have hml := hmb.lt
        have next : ∀ (σ' : Env) (u' : U) (h' : H) (S : Nat → Prop) (m' : List UInt8 → Option Int) (n' : Nat), σ' 4 = σ1 4 → σ' 12 = σ1 12 → σ' 13 = σ1 13 → σ' 14 = σ1 14 → σ' 23 = σ1 23 → σ' 24 = σ1 24 → σ' 25 = .int .i64 ((j : Int) + 1) → Step S u1 h1 u' h' → (∀ i, S i → h.size ≤ i) →
            MapB h' h.size m' n' → n' ≤ (varT vs0 t).length → (∀ s, (m' s).isSome = true ↔ s ∈ varT vs0 t) → Own (h.size + 1) u' h' (σ' 3) (varT vs0 t) → ∃ y, J y σ' h' ∧ x.2.1.2.1.length - y < x.2.1.2.1.length - j := fun σ' u' h' S m' n' g4 g12 g13 g14 g23 g24 g25 sx hS hm' hn' hms' ho' => by
          refine ⟨j + 1, ?_, by omega⟩
          rw [hJ]
          refine ⟨by rw [g4, e4], by rw [g12, e12], by rw [g13, e13], by rw [g14, e14], by rw [g23, e23], by rw [g24, e24], g25, hlt2, u', hpv.mono sx.ge, m', n', st.trans sx (fun b hb hB => by have := hS b hB; omega), hm', by rw [hsn]; exact hn', by rw [hsn]; exact hms', by rw [hsn]; exact ho'⟩
        have sp := Step.push0 S0 u1 h1 #[.int .i64 t.1, .int .i64 t.2.1, str t.2.2.1, .int .i64 t.2.2.2] 94
        by_cases hk4 : t.1 = 4
        · simp (disch := first | omega | (simp only [zz]; try omega; done)) only [↓reduceIte, go_sem, crVars_L2, e4, e23, e24, e25, hlt2, t0, t1, t2, t3, eq_true hk4]
          have bT : Blk (ub u1 h1.size 0) (h1.push (.cells #[.int .i64 t.1, .int .i64 t.2.1, str t.2.2.1, .int .i64 t.2.2.2] 94)) h1.size [.int .i64 t.1, .int .i64 t.2.1, str t.2.2.1, .int .i64 t.2.2.2] := (Blk.mk (by simp only [e_psz]; omega) (by simp (disch := first | omega | (simp only [zz]; try omega; done)) only [go_sem]) (by simp (disch := first | omega | (simp only [zz]; try omega; done)) only [go_sem]) (by repeat (first | (refine ub_at ?_; simp only []; done) | apply ub_zero)) (by simp (disch := first | omega | (simp only [zz]; try omega; done)) only [go_sem]))
          have hos := ho.step0 sp
          have hmp := hmb.step sp (fun h => h)
          refine effS_call ⟨rfl, ub u1 h1.size 0, h.size, m, n, t.2.2.1, rfl, hmp, by omega, fun v hv => ⟨by simp (disch := first | omega | (simp only [zz]; try omega; done)) only [go_sem], ?_⟩, fun hv h2 s2 hm2 => ⟨by simp (disch := first | omega | (simp only [zz]; try omega; done)) only [go_sem], ?_⟩⟩
          · have hin : t.2.2.1 ∈ vs0 := (hms _).1 (by rw [hv]; rfl)
            by_cases h95 : t.2.2.1 = [95]
            · have hvt : varT vs0 t = vs0 ++ [t.2.2.1] := by unfold varT; rw [if_pos ⟨hk4, .inl h95⟩]
              simp (disch := first | omega | (simp only [zz]; try omega; done)) only [↓reduceIte, go_sem, bT.at, bT.2.1, eq_true h95]
              refine effS_app1p (by simp only [e_psz]) hos (x := t.2.2.1) (by rw [rep_str]) rfl rfl (by simp only [e_psz]; omega) (by omega) fun a' n' c' u3 h3 ho3 s3 => ⟨by simp (disch := first | omega | (simp only [zz]; try omega; done)) only [go_sem], ?_⟩
              have hne : ∀ b, OwnB (σ1 3) b → h.size + 1 ≤ b := fun b hb => hos.ge hb
              simp (disch := first | omega | (simp only [zz]; try omega; done)) only [↓reduceIte, go_sem, e25]
              refine next _ u3 h3 (OwnB (σ1 3)) m n (by simp [upd]) (by simp [upd]) (by simp [upd]) (by simp [upd]) (by simp [upd]) (by simp [upd]) (by simp [upd]) ((sp.mono (fun _ _ h => h.elim)).trans s3 (fun _ _ h => h)) (fun b hB => by have := hne b hB; omega) (hmp.step s3 (fun hB => by have := hne _ hB; omega)) (by rw [hvt]; simp; omega) (fun s => ?_) (by rw [hvt]; simpa [upd] using ho3)
              rw [hms, hvt, List.mem_append, List.mem_singleton]
              exact ⟨.inl, fun h => h.elim id (fun h => h ▸ hin)⟩
            · have hvt : varT vs0 t = vs0 := by
                unfold varT; rw [if_neg]; rintro ⟨-, h | h⟩
                · exact h95 h
                · exact h hin
              simp (disch := first | omega | (simp only [zz]; try omega; done)) only [↓reduceIte, go_sem, e25, bT.at, bT.2.1, eq_false h95]
              exact next _ _ _ S0 m n (by simp [upd]) (by simp [upd]) (by simp [upd]) (by simp [upd]) (by simp [upd]) (by simp [upd]) (by simp [upd]) sp (fun _ h => h.elim) hmp (by rw [hvt]; exact hn) (by rw [hvt]; exact hms) (by rw [hvt]; simpa [upd] using hos)
          · have hin : t.2.2.1 ∉ vs0 := fun h => by have := (hms _).2 h; rw [hv] at this; cases this
            have hvt : varT vs0 t = vs0 ++ [t.2.2.1] := by unfold varT; rw [if_pos ⟨hk4, .inr hin⟩]
            have bT2 := bT.step s2 (by omega)
            have hos2 := hos.step s2 (fun b hB e => by have := hos.ge hB; omega)
            have hl2 : h.size + 1 ≤ h2.size := by have := s2.ge.sz; simp only [e_psz] at this; omega
            simp (disch := first | omega | (simp only [zz]; try omega; done)) only [↓reduceIte, go_sem, bT2.at, bT2.2.1]
            refine effS_app1 hos2 (x := t.2.2.1) (by rw [rep_str]) rfl rfl hl2 (by omega) fun a' n' c' u3 h3 ho3 s3 => ⟨by simp (disch := first | omega | (simp only [zz]; try omega; done)) only [go_sem], ?_⟩
            have hne : ∀ b, OwnB (σ1 3) b → h.size + 1 ≤ b := fun b hb => hos2.ge hb
            simp (disch := first | omega | (simp only [zz]; try omega; done)) only [↓reduceIte, go_sem, e25]
            have sall : Step (fun b => h.size ≤ b) u1 h1 u3 h3 := ((sp.mono (S' := fun b => h.size ≤ b) (fun _ _ h => h.elim)).trans s2 (fun b _ e => by omega)).trans s3 (fun b _ hB => by have := hne b hB; omega)
            refine next _ u3 h3 (fun b => h.size ≤ b) (putm m t.2.2.1 n) (n + 1) (by simp [upd]) (by simp [upd]) (by simp [upd]) (by simp [upd]) (by simp [upd]) (by simp [upd]) (by simp [upd]) sall (fun b h => h) (hm2.step s3 (fun hB => by have := hne _ hB; omega)) (by rw [hvt]; simp; omega) (fun s => ?_) (by rw [hvt]; simpa [upd] using ho3)
            rw [hvt, List.mem_append, List.mem_singleton]
            unfold putm
            by_cases hst : s = t.2.2.1
            · rw [if_pos hst]; exact ⟨fun _ => .inr hst, fun _ => rfl⟩
            · rw [if_neg hst, hms]; exact ⟨.inl, fun h => h.elim id (fun h => absurd h hst)⟩
        · have hvt : varT vs0 t = vs0 := by unfold varT; rw [if_neg (fun h => hk4 h.1)]
          simp (disch := first | omega | (simp only [zz]; try omega; done)) only [↓reduceIte, go_sem, crVars_L2, e23, e24, e25, hlt2, t0, t1, t2, t3, eq_false hk4]
          exact next _ _ _ S0 m n (by simp [upd]) (by simp [upd]) (by simp [upd]) (by simp [upd]) (by simp [upd]) (by simp [upd]) (by simp [upd]) sp (fun _ h => h.elim) (hmb.step sp (fun h => h)) (by rw [hvt]; exact hn) (by rw [hvt]; exact hms) (by rw [hvt]; simpa [upd] using ho.step0 sp)
      · obtain rfl : j = x.2.1.2.1.length := by omega
        rw [List.take_length] at ho hn hms
        simp (disch := first | omega | (simp only [zz]; try omega; done)) only [↓reduceIte, go_sem, crVars_L2, e14, e24, e25]
        have e : varsF (ls.take (i + 1)) = x.2.1.2.1.foldl varT (varsF (ls.take i)) := by unfold varsF; rw [fold_snoc hs]; unfold varL; rw [if_pos hk]
        refine ⟨i + 1, ?_, by omega⟩
        rw [hI]
        exact ⟨by simp [upd, e4], by simp [upd, e12], by simp [upd, e13], by simp [upd], hlt, u1, m, n, st, hmb, by rw [e]; exact hn, by rw [e]; exact hms, by rw [e]; simpa [upd] using ho⟩
    · simp (disch := first | omega | (simp only [zz]; try omega; done)) only [↓reduceIte, go_sem, crVars_L1, e12, e13, e14, hlt, p0, p1, p2, p3, p4, p5, p6, p7, p8, p9, p10, p11, p12, p13, eq_false hk]
      have e : varsF (ls.take (i + 1)) = varsF (ls.take i) := by unfold varsF; rw [fold_snoc hs]; unfold varL; rw [if_neg hk]
      have sp := Step.push0 S0 u' h' #[.int .i64 x.1, str x.2.1.1, .slice pva x.2.1.2.1.length pvc, .int .i64 x.2.1.2.2, .int .i64 x.2.2.1, .int .i64 x.2.2.2.1.1, .int .i64 x.2.2.2.1.2.1, str x.2.2.2.1.2.2.1, .int .i64 x.2.2.2.1.2.2.2, .int .i64 x.2.2.2.2.1.1, .int .i64 x.2.2.2.2.1.2.1, str x.2.2.2.2.1.2.2.1, .int .i64 x.2.2.2.2.1.2.2.2, .int .i64 x.2.2.2.2.2] 109
      refine ⟨i + 1, ?_, by omega⟩
      rw [hI]
      exact ⟨by simp [upd, e4], by simp [upd, e12], by simp [upd, e13], by simp [upd], hlt, _, m, n, st.trans0 sp, hmb.step sp (fun h => h), by rw [e]; exact hn, by rw [e]; exact hms, by rw [e]; simpa [upd] using ho.step0 sp⟩
  · obtain rfl : i = ls.length := by omega
    obtain ⟨m, n, st, hmb, hn, hms, ho⟩ := hvm
    rw [List.take_length] at ho
    simp (disch := first | omega | (simp only [zz]; try omega; done)) only [↓reduceIte, go_sem, crVars_L1, e13, e14]
    exact hK _ _ _ st ho.isSl
end Go.Proofs.Ytkobamedfbgjbaa
end Merged
