/- Fact, in core and in the reference. -/
import Derived.Test.YtjkppoffffjkmaaBackC
namespace Edict
def factB (ps : List Pred) (cs : List Const) (r : Row) : Fact × Int := match at? ps r.1 with
  | none => (([], []), 2)
  | some pr => if (r.2.length : Int) = pr.2 then (match mapS (at? cs) r.2 with | some l => ((pr.1, l), 0) | none => (([], []), 2)) else (([], []), 2)
end Edict
namespace Go.Proofs.Ytjkppoffffjkmaa
open Go Go.Ev Edict
def C_fact (vs : List Value) (h : H) (K : Value → H → Prop) : Prop :=
  ∃ (u : U) (c0 c1 c2 c3 rv : Value) (ps : List Pred) (cs : List Const) (r : Row), vs = [.agg #[c0, c1, c2, c3], .agg #[.int .i64 r.1, rv]] ∧ IsSl u h c0 ps ∧ IsSl u h c1 cs ∧ IsSl u h rv r.2 ∧ r.2.length ≤ 1048576 ∧
    ∀ u' h' l, Step S0 u h u' h' → Rep.rep u' h' (factB ps cs r).1 l → K (.tuple #[.agg l.toArray, .int .i64 (factB ps cs r).2]) h'
structure FactI (k : Nat) (u0 : U) (h0 : H) (rc cc : List Value) (nm : List UInt8) (u : U) (h : H) (bv : Value) (body : List Const) : Prop where
  st : Step S0 u0 h0 u h
  b0 : Blk u h k cc
  b1 : Blk u h (k + 1) rc
  b2 : Blk u h (k + 1 + 1) [str [], .slice none 0 0]
  bq : Blk u h (k + 1 + 1 + 1) [str nm, bv]
  ho : Own (k + 4) u h bv body
  hk : h0.size ≤ k
  hs : k + 4 ≤ h.size
theorem FactI.app {k : Nat} {u0 : U} {h0 : H} {rc cc : List Value} {nm : List UInt8} {u u' : U} {h h' : H} {bv bw : Value} {body : List Const} {x : Const} (b : FactI k u0 h0 rc cc nm u h bv body) (s : Step (OwnB bv) u h u' h') (o : Own (k + 4) u' h' bw (body ++ [x])) :
    FactI k u0 h0 rc cc nm u' (hset h' (k + 1 + 1 + 1) 1 bw) bw (body ++ [x]) := by
  have hne : ∀ i, OwnB bv i → k + 4 ≤ i := fun i hi => b.ho.ge hi
  have hk := b.hk
  have c0 := b.b0.step s (fun h => by have := hne _ h; omega)
  have c1 := b.b1.step s (fun h => by have := hne _ h; omega)
  have c2 := b.b2.step s (fun h => by have := hne _ h; omega)
  have cq := b.bq.step s (fun h => by have := hne _ h; omega)
  have s4 : Step (fun i => i = k + 1 + 1 + 1) u' h' u' (hset h' (k + 1 + 1 + 1) 1 bw) := Step.set u' h' _ rfl (by rw [cq.2.2.2.1]; exact Nat.zero_le _)
  exact ⟨(b.st.trans s (fun i hi h => by have := hne _ h; omega)).trans s4 (fun i hi e => by omega), c0.step s4 (by omega), c1.step s4 (by omega), c2.step s4 (by omega), cq.set (i := 1) (by simp),
    o.step s4 (fun i hi e => by have := o.ge hi; omega), hk, by rw [e_ssz]; exact Nat.le_trans b.hs s.ge.sz⟩
theorem crFact_ok {vs : List Value} {h : H} {K : Value → H → Prop} {KP : List PanicEntry → H → Prop} (hC : C_fact vs h K) : HCX Try.prog 8 vs h K KP := by
  obtain ⟨u, c0, c1, c2, c3, rv, ps, cs, ⟨rn, ra⟩, rfl, hp, hc, hr, hlen, hK⟩ := hC
  replace hlen : ra.length ≤ 1048576 := hlen
  replace hr : IsSl u h rv ra := hr
  refine crFact_H (fun _ _ _ _ _ => False) (fun _ _ _ _ _ h => h.elim) _ _ ?_
  obtain ⟨raa, rac, rfl, -, -⟩ := hr.sl
  obtain ⟨psa, psc, rfl, -, -⟩ := hp.sl
  obtain ⟨ca, cc, rfl, -, -⟩ := hc.sl
  by_cases hx : 0 ≤ rn ∧ rn < ps.length
  · obtain ⟨n, rfl⟩ := Int.eq_ofNat_of_zero_le hx.1
    obtain ⟨x, hx1, hx2⟩ := at_some hx.1 hx.2
    obtain ⟨b, o, rfl, hb, hu, hz, hrr⟩ := hp.row n x hx2
    simp only [rep_pred, sz_pred, hvs_2, List.cons.injEq, and_true] at hrr hu hz
    have hlt : n < ps.length := by omega
    have hz1 : o + n * 2 + 2 ≤ hsz h b := by omega
    by_cases har : (ra.length : Int) = x.2
    · simp only [factB, hx1, har, if_true] at hK
      simp (disch := first | omega | (simp only [e_ssz, e_psz, e_hszs, List.length_cons, List.length_nil]; try omega; done)) only [↓reduceIte, go_sem, crFact_S, crFact_E, Nat.not_le.2 hlt, hrr.1, hrr.2, hlt, eq_true har]
      obtain ⟨I, hI⟩ : ∃ I : (Nat × List Const) → Env → H → Prop, I = fun y σ h' => σ 2 = .pointer (some ⟨h.size, 0, none⟩) ∧ σ 3 = .pointer (some ⟨h.size + 1, 0, none⟩) ∧ σ 4 = .pointer (some ⟨h.size + 1 + 1, 0, none⟩) ∧ σ 6 = .pointer (some ⟨h.size + 1 + 1 + 1, 0, none⟩) ∧ σ 43 = .slice raa ra.length rac ∧ σ 44 = .int .i64 ra.length ∧ σ 45 = .int .i64 y.1 ∧ y.1 ≤ ra.length ∧ mapS (at? cs) (ra.take y.1) = some y.2 ∧
          ∃ u' bv, FactI h.size u h [.int .i64 n, .slice raa ra.length rac] [.slice (some ⟨b, o, none⟩) ps.length psc, .slice ca cs.length cc, c2, c3] x.1 u' h' bv y.2 := ⟨_, rfl⟩
      refine wpS_loop I (fun y => ra.length - y.1) (0, []) (by
        rw [hI]
        exact ⟨by simp [upd], by simp [upd], by simp [upd], by simp [upd], by simp [upd], by simp [upd], by simp [upd], Nat.zero_le _, rfl, _, .slice none 0 0, ⟨(by repeat (first | exact Step.refl _ _ _ | assumption | apply Step.pushR)), (Blk.mk (by simp only [e_psz]; omega) (by simp (disch := first | omega | (simp only [e_ssz, e_psz, e_hszs, List.length_cons, List.length_nil]; try omega; done)) only [go_sem]) (by simp (disch := first | omega | (simp only [e_ssz, e_psz, e_hszs, List.length_cons, List.length_nil]; try omega; done)) only [go_sem]) (by repeat (first | (refine ub_at ?_; simp only [e_psz]; done) | apply ub_zero)) (by simp (disch := first | omega | (simp only [e_ssz, e_psz, e_hszs, List.length_cons, List.length_nil]; try omega; done)) only [go_sem])), (Blk.mk (by simp only [e_psz]; omega) (by simp (disch := first | omega | (simp only [e_ssz, e_psz, e_hszs, List.length_cons, List.length_nil]; try omega; done)) only [go_sem]) (by simp (disch := first | omega | (simp only [e_ssz, e_psz, e_hszs, List.length_cons, List.length_nil]; try omega; done)) only [go_sem]) (by repeat (first | (refine ub_at ?_; simp only [e_psz]; done) | apply ub_zero)) (by simp (disch := first | omega | (simp only [e_ssz, e_psz, e_hszs, List.length_cons, List.length_nil]; try omega; done)) only [go_sem])), (Blk.mk (by simp only [e_psz]; omega) (by simp (disch := first | omega | (simp only [e_ssz, e_psz, e_hszs, List.length_cons, List.length_nil]; try omega; done)) only [go_sem]) (by simp (disch := first | omega | (simp only [e_ssz, e_psz, e_hszs, List.length_cons, List.length_nil]; try omega; done)) only [go_sem]) (by repeat (first | (refine ub_at ?_; simp only [e_psz]; done) | apply ub_zero)) (by simp (disch := first | omega | (simp only [e_ssz, e_psz, e_hszs, List.length_cons, List.length_nil]; try omega; done)) only [go_sem])), (Blk.mk (by simp only [e_psz]; omega) (by simp (disch := first | omega | (simp only [e_ssz, e_psz, e_hszs, List.length_cons, List.length_nil]; try omega; done)) only [go_sem]) (by simp (disch := first | omega | (simp only [e_ssz, e_psz, e_hszs, List.length_cons, List.length_nil]; try omega; done)) only [go_sem]) (by repeat (first | (refine ub_at ?_; simp only [e_psz]; done) | apply ub_zero)) (by simp (disch := first | omega | (simp only [e_ssz, e_psz, e_hszs, List.length_cons, List.length_nil]; try omega; done)) only [go_sem])), .nil _ _ _, Nat.le_refl _, by simp only [e_psz]; omega⟩⟩) ?_
      intro ⟨i, acc⟩ σ h' hy
      rw [hI] at hy
      obtain ⟨e2, e3, e4, e6, es, el, ei, hi, hacc, u', bv, B⟩ := hy
      simp only at ei hi hacc B
      have hsz' := B.hs
      by_cases hlt2 : i < ra.length
      · obtain ⟨d, hs⟩ : ∃ d, ra[i]? = some d := ⟨ra[i], by simp [hlt2]⟩
        obtain ⟨pb, po, rfl, hpb, hpu, hpz, hpr⟩ := (hr.mono B.st.ge).row i d hs
        simp only [rep_int, sz_int, hvs_1, List.cons.injEq, and_true] at hpr hpu hpz
        have hz2 : po + i * 1 < hsz h' pb := by omega
        by_cases hd : 0 ≤ d ∧ d < cs.length
        · obtain ⟨m, rfl⟩ := Int.eq_ofNat_of_zero_le hd.1
          obtain ⟨k, hk1, hk2⟩ := at_some hd.1 hd.2
          obtain ⟨kb, ko, rfl, hkb, hku, hkz, hkr⟩ := (hc.mono B.st.ge).row m k hk2
          simp only [rep_const, sz_const, hvs_3, List.cons.injEq, and_true] at hkr hku hkz
          have hm : m < cs.length := by omega
          simp (disch := first | omega | (simp only [e_ssz, e_psz, e_hszs, List.length_cons, List.length_nil]; try omega; done)) only [↓reduceIte, go_sem, crFact_L1, e2, e6, es, el, ei, B.b0.at, B.b0.2.1, B.bq.at, B.bq.2.1, hlt2, hpr, hz2, Nat.not_le.2 hm, hm, hkr.1, hkr.2.1, hkr.2.2, hkz]
          refine effS_app1 B.ho (x := k) (by rw [rep_const]) rfl rfl B.hs (by have := mapS_len hacc; rw [List.length_take] at this; omega) fun a' n' c' u5 h5 ho5 s5 => ⟨by simp (disch := first | omega | (simp only [e_ssz, e_psz, e_hszs, List.length_cons, List.length_nil]; try omega; done)) only [go_sem], ?_⟩
          have B5 := B.app s5 ho5
          have q5 := B.bq.step s5 (fun hB => by have := B.ho.ge hB; omega)
          simp (disch := first | omega | (simp only [e_ssz, e_psz, e_hszs, List.length_cons, List.length_nil]; try omega; done)) only [↓reduceIte, go_sem, e6, ei, q5.2.1, q5.2.2.1]
          refine ⟨(i + 1, acc ++ [k]), ?_, by simp only; omega⟩
          rw [hI]
          exact ⟨by simp [upd, e2], by simp [upd, e3], by simp [upd, e4], by simp [upd, e6], by simp [upd, es], by simp [upd, el], by simp [upd], hlt2, by rw [mapS_snoc hs, hacc, hk1]; rfl, u5, _, B5⟩
        · have hn : mapS (at? cs) ra = none := mapS_none (i := i + 1) (by rw [mapS_snoc hs, hacc, at_none (show d < 0 ∨ (cs.length : Int) ≤ d by omega)]; rfl)
          simp only [hn] at hK
          have f1 := B.b2.sets (l := [str [], .slice none 0 0]) rfl
          simp (disch := first | omega | (simp only [e_ssz, e_psz, e_hszs, List.length_cons, List.length_nil]; try omega; done)) only [↓reduceIte, go_sem, crFact_L1, e2, e4, es, el, ei, B.b0.at, B.b0.2.1, hlt2, hpr, hz2, show d < 0 ∨ (cs.length : Int) ≤ d by omega, B.b2.2.1, B.b2.2.2.1, f1.at, f1.2.1]
          have s9 : Step (fun i => i = h.size + 1 + 1) u' h' u' (hsets h' (h.size + 1 + 1) 0 [str [], .slice none 0 0]) := Step.sets u' h' _ rfl (by rw [B.b2.2.2.2.1]; exact Nat.zero_le _) (by rw [B.b2.2.1]; exact Nat.le_refl _)
          exact hK _ _ _ (B.st.trans s9 (fun b hb e => by omega)) (by rw [rep_fact]; exact ⟨_, rfl, .nil _ _⟩)
      · obtain rfl : i = ra.length := by omega
        rw [List.take_length] at hacc
        simp only [hacc] at hK
        obtain ⟨ba, bc, rfl, -, -⟩ := B.ho.sl
        have f1 := B.b2.sets (l := [str x.1, .slice ba acc.length bc]) rfl
        simp (disch := first | omega | (simp only [e_ssz, e_psz, e_hszs, List.length_cons, List.length_nil]; try omega; done)) only [↓reduceIte, go_sem, crFact_L1, e4, e6, el, ei, B.bq.at, B.bq.2.1, B.b2.2.1, B.b2.2.2.1, f1.at, f1.2.1]
        have s9 : Step (fun i => i = h.size + 1 + 1) u' h' u' (hsets h' (h.size + 1 + 1) 0 [str x.1, .slice ba acc.length bc]) := Step.sets u' h' _ rfl (by rw [B.b2.2.2.2.1]; exact Nat.zero_le _) (by rw [B.b2.2.1]; exact Nat.le_refl _)
        exact hK _ _ _ (B.st.trans s9 (fun b hb e => by omega)) (by rw [rep_fact]; exact ⟨_, rfl, B.ho.isSl.mono s9.ge⟩)
    · simp only [factB, hx1, har, if_false] at hK
      simp (disch := first | omega | (simp only [e_ssz, e_psz, e_hszs, List.length_cons, List.length_nil]; try omega; done)) only [↓reduceIte, go_sem, crFact_S, crFact_E, Nat.not_le.2 hlt, hrr.2, hlt, eq_false har]
      exact hK _ _ _ (by repeat (first | exact Step.refl _ _ _ | assumption | apply Step.pushR)) (by rw [rep_fact]; exact ⟨_, rfl, .nil _ _⟩)
  · simp only [factB, at_none (show rn < 0 ∨ (ps.length : Int) ≤ rn by omega)] at hK
    by_cases hneg : rn < 0
    · simp (disch := first | omega | (simp only [e_ssz, e_psz, e_hszs, List.length_cons, List.length_nil]; try omega; done)) only [↓reduceIte, go_sem, crFact_S, crFact_E, eq_true hneg]
      exact hK _ _ _ (by repeat (first | exact Step.refl _ _ _ | assumption | apply Step.pushR)) (by rw [rep_fact]; exact ⟨_, rfl, .nil _ _⟩)
    · simp (disch := first | omega | (simp only [e_ssz, e_psz, e_hszs, List.length_cons, List.length_nil]; try omega; done)) only [↓reduceIte, go_sem, crFact_S, crFact_E, eq_false hneg, eq_true (show (ps.length : Int) ≤ rn by omega)]
      exact hK _ _ _ (by repeat (first | exact Step.refl _ _ _ | assumption | apply Step.pushR)) (by rw [rep_fact]; exact ⟨_, rfl, .nil _ _⟩)
theorem rfFact_ok {vs : List Value} {h : H} {K : Value → H → Prop} {KP : List PanicEntry → H → Prop} (hC : C_fact vs h K) : HCX Try.prog 9 vs h K KP := by
  obtain ⟨u, c0, c1, c2, c3, rv, ps, cs, ⟨rn, ra⟩, rfl, hp, hc, hr, hlen, hK⟩ := hC
  replace hlen : ra.length ≤ 1048576 := hlen
  replace hr : IsSl u h rv ra := hr
  refine rfFact_H (fun _ _ _ _ _ => False) (fun _ _ _ _ _ h => h.elim) _ _ ?_
  obtain ⟨raa, rac, rfl, -, -⟩ := hr.sl
  obtain ⟨psa, psc, rfl, -, -⟩ := hp.sl
  obtain ⟨ca, cc, rfl, -, -⟩ := hc.sl
  by_cases hx : 0 ≤ rn ∧ rn < ps.length
  · obtain ⟨n, rfl⟩ := Int.eq_ofNat_of_zero_le hx.1
    obtain ⟨x, hx1, hx2⟩ := at_some hx.1 hx.2
    obtain ⟨b, o, rfl, hb, hu, hz, hrr⟩ := hp.row n x hx2
    simp only [rep_pred, sz_pred, hvs_2, List.cons.injEq, and_true] at hrr hu hz
    have hlt : n < ps.length := by omega
    have hz1 : o + n * 2 + 2 ≤ hsz h b := by omega
    by_cases har : (ra.length : Int) = x.2
    · simp only [factB, hx1, har, if_true] at hK
      simp (disch := first | omega | (simp only [e_ssz, e_psz, e_hszs, List.length_cons, List.length_nil]; try omega; done)) only [↓reduceIte, go_sem, rfFact_S, rfFact_E, Nat.not_le.2 hlt, hrr.1, hrr.2, hlt, eq_true har]
      obtain ⟨I, hI⟩ : ∃ I : (Nat × List Const) → Env → H → Prop, I = fun y σ h' => σ 2 = .pointer (some ⟨h.size, 0, none⟩) ∧ σ 3 = .pointer (some ⟨h.size + 1, 0, none⟩) ∧ σ 4 = .pointer (some ⟨h.size + 1 + 1, 0, none⟩) ∧ σ 6 = .pointer (some ⟨h.size + 1 + 1 + 1, 0, none⟩) ∧ σ 7 = .int .i64 y.1 ∧ y.1 ≤ ra.length ∧ mapS (at? cs) (ra.take y.1) = some y.2 ∧
          ∃ u' bv, FactI h.size u h [.int .i64 n, .slice raa ra.length rac] [.slice (some ⟨b, o, none⟩) ps.length psc, .slice ca cs.length cc, c2, c3] x.1 u' h' bv y.2 := ⟨_, rfl⟩
      refine wpS_loop I (fun y => ra.length - y.1) (0, []) (by
        rw [hI]
        exact ⟨by simp [upd], by simp [upd], by simp [upd], by simp [upd], by simp [upd], Nat.zero_le _, rfl, _, .slice none 0 0, ⟨(by repeat (first | exact Step.refl _ _ _ | assumption | apply Step.pushR)), (Blk.mk (by simp only [e_psz]; omega) (by simp (disch := first | omega | (simp only [e_ssz, e_psz, e_hszs, List.length_cons, List.length_nil]; try omega; done)) only [go_sem]) (by simp (disch := first | omega | (simp only [e_ssz, e_psz, e_hszs, List.length_cons, List.length_nil]; try omega; done)) only [go_sem]) (by repeat (first | (refine ub_at ?_; simp only [e_psz]; done) | apply ub_zero)) (by simp (disch := first | omega | (simp only [e_ssz, e_psz, e_hszs, List.length_cons, List.length_nil]; try omega; done)) only [go_sem])), (Blk.mk (by simp only [e_psz]; omega) (by simp (disch := first | omega | (simp only [e_ssz, e_psz, e_hszs, List.length_cons, List.length_nil]; try omega; done)) only [go_sem]) (by simp (disch := first | omega | (simp only [e_ssz, e_psz, e_hszs, List.length_cons, List.length_nil]; try omega; done)) only [go_sem]) (by repeat (first | (refine ub_at ?_; simp only [e_psz]; done) | apply ub_zero)) (by simp (disch := first | omega | (simp only [e_ssz, e_psz, e_hszs, List.length_cons, List.length_nil]; try omega; done)) only [go_sem])), (Blk.mk (by simp only [e_psz]; omega) (by simp (disch := first | omega | (simp only [e_ssz, e_psz, e_hszs, List.length_cons, List.length_nil]; try omega; done)) only [go_sem]) (by simp (disch := first | omega | (simp only [e_ssz, e_psz, e_hszs, List.length_cons, List.length_nil]; try omega; done)) only [go_sem]) (by repeat (first | (refine ub_at ?_; simp only [e_psz]; done) | apply ub_zero)) (by simp (disch := first | omega | (simp only [e_ssz, e_psz, e_hszs, List.length_cons, List.length_nil]; try omega; done)) only [go_sem])), (Blk.mk (by simp only [e_psz]; omega) (by simp (disch := first | omega | (simp only [e_ssz, e_psz, e_hszs, List.length_cons, List.length_nil]; try omega; done)) only [go_sem]) (by simp (disch := first | omega | (simp only [e_ssz, e_psz, e_hszs, List.length_cons, List.length_nil]; try omega; done)) only [go_sem]) (by repeat (first | (refine ub_at ?_; simp only [e_psz]; done) | apply ub_zero)) (by simp (disch := first | omega | (simp only [e_ssz, e_psz, e_hszs, List.length_cons, List.length_nil]; try omega; done)) only [go_sem])), .nil _ _ _, Nat.le_refl _, by simp only [e_psz]; omega⟩⟩) ?_
      intro ⟨i, acc⟩ σ h' hy
      rw [hI] at hy
      obtain ⟨e2, e3, e4, e6, ei, hi, hacc, u', bv, B⟩ := hy
      simp only at ei hi hacc B
      have hsz' := B.hs
      by_cases hlt2 : i < ra.length
      · obtain ⟨d, hs⟩ : ∃ d, ra[i]? = some d := ⟨ra[i], by simp [hlt2]⟩
        obtain ⟨pb, po, rfl, hpb, hpu, hpz, hpr⟩ := (hr.mono B.st.ge).row i d hs
        simp only [rep_int, sz_int, hvs_1, List.cons.injEq, and_true] at hpr hpu hpz
        have hz2 : po + i * 1 < hsz h' pb := by omega
        by_cases hd : 0 ≤ d ∧ d < cs.length
        · obtain ⟨m, rfl⟩ := Int.eq_ofNat_of_zero_le hd.1
          obtain ⟨k, hk1, hk2⟩ := at_some hd.1 hd.2
          obtain ⟨kb, ko, rfl, hkb, hku, hkz, hkr⟩ := (hc.mono B.st.ge).row m k hk2
          simp only [rep_const, sz_const, hvs_3, List.cons.injEq, and_true] at hkr hku hkz
          have hm : m < cs.length := by omega
          simp (disch := first | omega | (simp only [e_ssz, e_psz, e_hszs, List.length_cons, List.length_nil]; try omega; done)) only [↓reduceIte, go_sem, rfFact_L1, e2, e3, e6, ei, B.b0.at, B.b1.at, B.b0.2.1, B.b1.2.1, B.bq.at, B.bq.2.1, hlt2, hpr, hz2, Nat.not_le.2 hm, hm, hkr.1, hkr.2.1, hkr.2.2, hkz]
          refine effS_app1 B.ho (x := k) (by rw [rep_const]) rfl rfl B.hs (by have := mapS_len hacc; rw [List.length_take] at this; omega) fun a' n' c' u5 h5 ho5 s5 => ⟨by simp (disch := first | omega | (simp only [e_ssz, e_psz, e_hszs, List.length_cons, List.length_nil]; try omega; done)) only [go_sem], ?_⟩
          have B5 := B.app s5 ho5
          have q5 := B.bq.step s5 (fun hB => by have := B.ho.ge hB; omega)
          simp (disch := first | omega | (simp only [e_ssz, e_psz, e_hszs, List.length_cons, List.length_nil]; try omega; done)) only [↓reduceIte, go_sem, e6, ei, q5.2.1, q5.2.2.1]
          refine ⟨(i + 1, acc ++ [k]), ?_, by simp only; omega⟩
          rw [hI]
          exact ⟨by simp [upd, e2], by simp [upd, e3], by simp [upd, e4], by simp [upd, e6], by simp [upd], hlt2, by rw [mapS_snoc hs, hacc, hk1]; rfl, u5, _, B5⟩
        · have hn : mapS (at? cs) ra = none := mapS_none (i := i + 1) (by rw [mapS_snoc hs, hacc, at_none (show d < 0 ∨ (cs.length : Int) ≤ d by omega)]; rfl)
          simp only [hn] at hK
          have f1 := B.b2.sets (l := [str [], .slice none 0 0]) rfl
          simp (disch := first | omega | (simp only [e_ssz, e_psz, e_hszs, List.length_cons, List.length_nil]; try omega; done)) only [↓reduceIte, go_sem, rfFact_L1, e2, e3, e4, ei, B.b0.at, B.b1.at, B.b0.2.1, B.b1.2.1, hlt2, hpr, hz2, show d < 0 ∨ (cs.length : Int) ≤ d by omega, B.b2.2.1, B.b2.2.2.1, f1.at, f1.2.1]
          have s9 : Step (fun i => i = h.size + 1 + 1) u' h' u' (hsets h' (h.size + 1 + 1) 0 [str [], .slice none 0 0]) := Step.sets u' h' _ rfl (by rw [B.b2.2.2.2.1]; exact Nat.zero_le _) (by rw [B.b2.2.1]; exact Nat.le_refl _)
          exact hK _ _ _ (B.st.trans s9 (fun b hb e => by omega)) (by rw [rep_fact]; exact ⟨_, rfl, .nil _ _⟩)
      · obtain rfl : i = ra.length := by omega
        rw [List.take_length] at hacc
        simp only [hacc] at hK
        obtain ⟨ba, bc, rfl, -, -⟩ := B.ho.sl
        have f1 := B.b2.sets (l := [str x.1, .slice ba acc.length bc]) rfl
        simp (disch := first | omega | (simp only [e_ssz, e_psz, e_hszs, List.length_cons, List.length_nil]; try omega; done)) only [↓reduceIte, go_sem, rfFact_L1, e3, e4, e6, ei, B.b1.at, B.b1.2.1, B.bq.at, B.bq.2.1, B.b2.2.1, B.b2.2.2.1, f1.at, f1.2.1]
        have s9 : Step (fun i => i = h.size + 1 + 1) u' h' u' (hsets h' (h.size + 1 + 1) 0 [str x.1, .slice ba acc.length bc]) := Step.sets u' h' _ rfl (by rw [B.b2.2.2.2.1]; exact Nat.zero_le _) (by rw [B.b2.2.1]; exact Nat.le_refl _)
        exact hK _ _ _ (B.st.trans s9 (fun b hb e => by omega)) (by rw [rep_fact]; exact ⟨_, rfl, B.ho.isSl.mono s9.ge⟩)
    · simp only [factB, hx1, har, if_false] at hK
      simp (disch := first | omega | (simp only [e_ssz, e_psz, e_hszs, List.length_cons, List.length_nil]; try omega; done)) only [↓reduceIte, go_sem, rfFact_S, rfFact_E, Nat.not_le.2 hlt, hrr.2, hlt, eq_false har]
      exact hK _ _ _ (by repeat (first | exact Step.refl _ _ _ | assumption | apply Step.pushR)) (by rw [rep_fact]; exact ⟨_, rfl, .nil _ _⟩)
  · simp only [factB, at_none (show rn < 0 ∨ (ps.length : Int) ≤ rn by omega)] at hK
    by_cases hneg : rn < 0
    · simp (disch := first | omega | (simp only [e_ssz, e_psz, e_hszs, List.length_cons, List.length_nil]; try omega; done)) only [↓reduceIte, go_sem, rfFact_S, rfFact_E, eq_true hneg]
      exact hK _ _ _ (by repeat (first | exact Step.refl _ _ _ | assumption | apply Step.pushR)) (by rw [rep_fact]; exact ⟨_, rfl, .nil _ _⟩)
    · simp (disch := first | omega | (simp only [e_ssz, e_psz, e_hszs, List.length_cons, List.length_nil]; try omega; done)) only [↓reduceIte, go_sem, rfFact_S, rfFact_E, eq_false hneg, eq_true (show (ps.length : Int) ≤ rn by omega)]
      exact hK _ _ _ (by repeat (first | exact Step.refl _ _ _ | assumption | apply Step.pushR)) (by rw [rep_fact]; exact ⟨_, rfl, .nil _ _⟩)
end Go.Proofs.Ytjkppoffffjkmaa
