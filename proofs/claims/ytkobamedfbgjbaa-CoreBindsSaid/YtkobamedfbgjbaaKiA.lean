/- CoreBinds: numbered, below. -/
import Derived.Test.YtkobamedfbgjbaaKlBi
import Derived.Test.YtkobamedfbgjbaaKrB
import Derived.Test.YtkobamedfbgjbaaKcO
namespace Edict
theorem numS_le : ∀ {l : List Slot} {m n : Nat}, numS m l = some n → m ≤ n
  | [], m, n, h => by cases h; exact Nat.le_refl _
  | s :: l, m, n, h => by
    unfold numS at h
    split at h
    · split at h
      · cases h
      · have := numS_le h
        split at this <;> omega
    · exact numS_le h
theorem numP_le : ∀ {l : List Pattern} {m n : Nat}, numP m l = some n → m ≤ n
  | [], m, n, h => by cases h; exact Nat.le_refl _
  | p :: l, m, n, h => by
    unfold numP at h
    split at h
    · rename_i k hk
      exact Nat.le_trans (numS_le hk) (numP_le h)
    · cases h
theorem numP_cons {p : Pattern} {l : List Pattern} {m n : Nat} (h : numP m (p :: l) = some n) : ∃ k, numS m p.2 = some k ∧ numP k l = some n := by
  unfold numP at h
  split at h
  · rename_i k hk; exact ⟨k, hk, h⟩
  · cases h
end Edict
namespace Go.Proofs.Ytkobamedfbgjbaa
open Go Go.Ev Edict
def C_num (vs : List Value) (h : H) (K : Value → H → Prop) : Prop := ∃ (u : U) (v : Value) (l : List Pattern) (n : Nat), vs = [v, .int .i64 n] ∧ IsSl u h v l ∧ numP 0 l = some n ∧ n ≤ 1048576 ∧ ∀ u' h', Step S0 u h u' h' → K (.bool true) h'
theorem klNumbered_ok {vs : List Value} {h : H} {K : Value → H → Prop} {KP : List PanicEntry → H → Prop} (hC : C_num vs h K) : HCX Try.prog 36 vs h K KP := by
  obtain ⟨u, v, l, n, rfl, hl, hn, hn16, hK⟩ := hC
  obtain ⟨la, lc, rfl, q1, q2⟩ := hl.sl
  have hm := mlen'
  refine klNumbered_H (fun _ _ _ _ _ => False) (fun _ _ _ _ _ h => h.elim) _ _ ?_
  simp (disch := first | omega | (simp only [e_ssz, e_psz, e_hszs, List.length_cons, List.length_nil]; try omega; done)) only [go_sem, klNumbered_S, klNumbered_E]
  obtain ⟨I, hI⟩ : ∃ I : Nat → Env → H → Prop, I = fun i σ h' => σ 0 = .slice la l.length lc ∧ σ 1 = .int .i64 n ∧ σ 6 = .int .i64 i ∧ i ≤ l.length ∧
    ∃ (u' : U) (m : Nat), σ 5 = .int .i64 m ∧ Step S0 u h u' h' ∧ numP m (l.drop i) = some n ∧ IsSl u' h' (.slice la l.length lc) l := ⟨_, rfl⟩
  refine wpS_loop I (fun i => l.length - i) 0 (by rw [hI]; exact ⟨by simp [upd], by simp [upd], by simp [upd], Nat.zero_le _, u, 0, by simp [upd], .refl _ _ _, hn, hl⟩) ?_
  clear hl hn
  intro i σ h' hy
  rw [hI] at hy
  obtain ⟨e0, e1, e6, hi, u', m, e5, st, hn, hl⟩ := hy
  have hmn := numP_le hn
  by_cases hlt : i < l.length
  · obtain ⟨x, hs⟩ : ∃ x, l[i]? = some x := ⟨l[i], by simp [hlt]⟩
    have hdr : l.drop i = x :: l.drop (i + 1) := by
      obtain ⟨hi', rfl⟩ := List.getElem?_eq_some_iff.1 hs
      exact List.drop_eq_getElem_cons hi'
    rw [hdr] at hn
    obtain ⟨k, hk, hn⟩ := numP_cons hn
    have hkn := numP_le hn
    simp (disch := first | omega | (simp only [e_ssz, e_psz, e_hszs, List.length_cons, List.length_nil]; try omega; done)) only [↓reduceIte, go_sem, klNumbered_L1, e0, e6, hlt]
    obtain ⟨J, hJ⟩ : ∃ J : Nat → Env → H → Prop, J = fun j σ h' => σ 0 = .slice la l.length lc ∧ σ 1 = .int .i64 n ∧ σ 6 = .int .i64 i ∧ σ 7 = .int .i64 j ∧ j ≤ x.2.length ∧
      ∃ (u' : U) (m : Nat), σ 5 = .int .i64 m ∧ Step S0 u h u' h' ∧ numS m (x.2.drop j) = some k ∧ IsSl u' h' (.slice la l.length lc) l := ⟨_, rfl⟩
    refine wpS_loop J (fun j => x.2.length - j) 0 (by rw [hJ]; exact ⟨by simp [upd, e0], by simp [upd, e1], by simp [upd, e6], by simp [upd], Nat.zero_le _, u', m, by simp [upd, e5], st, hk, hl⟩) ?_
    clear e0 e1 e5 e6 st hk hl hmn
    intro j σ h' hy
    rw [hJ] at hy
    obtain ⟨e0, e1, e6, e7, hj, u', m, e5, st, hk, hl⟩ := hy
    have hlk := hl
    obtain ⟨pb, po, rfl, hpb, hpu, hpz, hpr⟩ := hl.row i x hs
    rw [rep_pattern] at hpr
    obtain ⟨xv, hpr, hx⟩ := hpr
    obtain ⟨xa, xc, rfl, r1, r2⟩ := hx.sl
    simp only [sz_pattern, hvs_2, List.cons.injEq, and_true] at hpr hpu hpz
    obtain ⟨l0, l1⟩ := hpr
    have hmk := numS_le hk
    by_cases hjt : j < x.2.length
    · obtain ⟨s, hss⟩ : ∃ s, x.2[j]? = some s := ⟨x.2[j], by simp [hjt]⟩
      have hdj : x.2.drop j = s :: x.2.drop (j + 1) := by
        obtain ⟨hi', rfl⟩ := List.getElem?_eq_some_iff.1 hss
        exact List.drop_eq_getElem_cons hi'
      rw [hdj] at hk
      obtain ⟨qb, qo, rfl, hqb, hqu, hqz, hqr⟩ := hx.row j s hss
      rw [rep_slot] at hqr
      simp only [sz_slot, hvs_2, List.cons.injEq, and_true] at hqr hqu hqz
      obtain ⟨c0, c1⟩ := hqr
      unfold numS at hk
      have sA := fun b : Bool => Step.push0 S0 u' h' #[.bool b, .int .i64 s.2] 116
      have st2 := fun b => st.trans0 (sA b)
      have hl2 := fun b => hlk.mono (sA b).ge
      by_cases hsv : s.1 = true
      · rw [if_pos hsv] at hk
        rw [hsv] at c0
        split at hk
        · cases hk
        · rename_i hb
          by_cases hsm : s.2 = m
          · rw [if_pos hsm] at hk
            have := numS_le hk
            simp (disch := first | omega | (simp only [e_ssz, e_psz, e_hszs, List.length_cons, List.length_nil]; try omega; done)) only [↓reduceIte, go_sem, klNumbered_L2, e0, e5, e6, e7, hlt, hjt, l1, c0, c1, eq_true hsm, eq_false hb]
            refine ⟨j + 1, ?_, by omega⟩
            rw [hJ]
            exact ⟨by simp [upd, e0], by simp [upd, e1], by simp [upd, e6], by simp [upd], hjt, _, m + 1, by simp [upd], st2 _, hk, hl2 _⟩
          · rw [if_neg hsm] at hk
            simp (disch := first | omega | (simp only [e_ssz, e_psz, e_hszs, List.length_cons, List.length_nil]; try omega; done)) only [↓reduceIte, go_sem, klNumbered_L2, e0, e5, e6, e7, hlt, hjt, l1, c0, c1, eq_false hsm, eq_false hb]
            refine ⟨j + 1, ?_, by omega⟩
            rw [hJ]
            exact ⟨by simp [upd, e0], by simp [upd, e1], by simp [upd, e6], by simp [upd], hjt, _, m, by simp [upd, e5], st2 _, hk, hl2 _⟩
      · rw [if_neg hsv] at hk
        have hsv : s.1 = false := by simpa using hsv
        rw [hsv] at c0
        simp (disch := first | omega | (simp only [e_ssz, e_psz, e_hszs, List.length_cons, List.length_nil]; try omega; done)) only [↓reduceIte, go_sem, klNumbered_L2, e0, e6, e7, hlt, hjt, l1, c0, c1]
        refine ⟨j + 1, ?_, by omega⟩
        rw [hJ]
        exact ⟨by simp [upd, e0], by simp [upd, e1], by simp [upd, e6], by simp [upd], hjt, _, m, by simp [upd, e5], st2 _, hk, hl2 _⟩
    · obtain rfl : j = x.2.length := by omega
      rw [List.drop_length] at hk
      have hk : m = k := by cases hk; rfl
      subst hk
      simp (disch := first | omega | (simp only [e_ssz, e_psz, e_hszs, List.length_cons, List.length_nil]; try omega; done)) only [↓reduceIte, go_sem, klNumbered_L2, e0, e6, e7, hlt, l1]
      refine ⟨i + 1, ?_, by omega⟩
      rw [hI]
      exact ⟨by simp [upd, e0], by simp [upd, e1], by simp [upd], hlt, u', m, by simp [upd, e5], st, hn, hlk⟩
  · obtain rfl : i = l.length := by omega
    rw [List.drop_length] at hn
    have hn : m = n := by cases hn; rfl
    subst hn
    simp (disch := first | omega | (simp only [e_ssz, e_psz, e_hszs, List.length_cons, List.length_nil]; try omega; done)) only [↓reduceIte, go_sem, klNumbered_L1, e0, e1, e5, e6]
    exact hK _ _ st
def C_below (vs : List Value) (h : H) (K : Value → H → Prop) : Prop := ∃ (u : U) (x : Int) (v : Value) (l : List Slot) (n : Nat), vs = [.agg #[.int .i64 x, v], .int .i64 n] ∧ IsSl u h v l ∧ belowB n l = true ∧ ∀ u' h', Step S0 u h u' h' → K (.bool true) h'
theorem klBelow_ok {vs : List Value} {h : H} {K : Value → H → Prop} {KP : List PanicEntry → H → Prop} (hC : C_below vs h K) : HCX Try.prog 37 vs h K KP := by
  obtain ⟨u, y, v, l, n, rfl, hl, hn, hK⟩ := hC
  obtain ⟨la, lc, rfl, q1, q2⟩ := hl.sl
  have hm := mlen'
  unfold belowB at hn
  rw [List.all_eq_true] at hn
  refine klBelow_H (fun _ _ _ _ _ => False) (fun _ _ _ _ _ h => h.elim) _ _ ?_
  have sA := Step.push0 S0 u h #[.int .i64 y, .slice la l.length lc] 56
  have A : Blk (ub u h.size 0) (h.push (.cells #[.int .i64 y, .slice la l.length lc] 56)) h.size [.int .i64 y, .slice la l.length lc] := (Blk.mk (by simp only [e_psz]; omega) (by simp (disch := first | omega | (simp only [e_ssz, e_psz, e_hszs, List.length_cons, List.length_nil]; try omega; done)) only [go_sem]) (by simp (disch := first | omega | (simp only [e_ssz, e_psz, e_hszs, List.length_cons, List.length_nil]; try omega; done)) only [go_sem]) (by repeat (first | (refine ub_at ?_; simp only []; done) | apply ub_zero)) (by simp (disch := first | omega | (simp only [e_ssz, e_psz, e_hszs, List.length_cons, List.length_nil]; try omega; done)) only [go_sem]))
  have hl1 := hl.mono sA.ge
  simp (disch := first | omega | (simp only [e_ssz, e_psz, e_hszs, List.length_cons, List.length_nil]; try omega; done)) only [↓reduceIte, go_sem, klBelow_S, klBelow_E]
  generalize ub u h.size 0 = u1 at sA A hl1
  generalize h.push (.cells #[.int .i64 y, .slice la l.length lc] 56) = h1 at sA A hl1 ⊢
  have hal := A.1
  obtain ⟨I, hI⟩ : ∃ I : Nat → Env → H → Prop, I = fun i σ h' => h' = h1 ∧ σ 1 = .int .i64 n ∧ σ 2 = .pointer (some ⟨h.size, 0, none⟩) ∧ σ 5 = .int .i64 i ∧ i ≤ l.length := ⟨_, rfl⟩
  refine wpS_loop I (fun i => l.length - i) 0 (by rw [hI]; exact ⟨rfl, by simp [upd], by simp [upd], by simp [upd], Nat.zero_le _⟩) ?_
  intro i σ h' hy
  rw [hI] at hy
  obtain ⟨rfl, e1, e2, e5, hi⟩ := hy
  by_cases hlt : i < l.length
  · obtain ⟨s, hs⟩ : ∃ x, l[i]? = some x := ⟨l[i], by simp [hlt]⟩
    have hb := hn s (List.mem_of_getElem? hs)
    obtain ⟨qb, qo, rfl, hqb, hqu, hqz, hqr⟩ := hl1.row i s hs
    rw [rep_slot] at hqr
    simp only [sz_slot, hvs_2, List.cons.injEq, and_true] at hqr hqu hqz
    obtain ⟨c0, c1⟩ := hqr
    cases hsv : s.1 with
    | true =>
      rw [hsv] at hb c0
      have hb1 : ¬ s.2 < 0 := fun h => by simp [h] at hb
      have hb2 : ¬ (n : Int) ≤ s.2 := fun h => by simp [h] at hb
      simp (disch := first | omega | (simp only [e_ssz, e_psz, e_hszs, List.length_cons, List.length_nil]; try omega; done)) only [↓reduceIte, go_sem, klBelow_L1, e1, e2, e5, hlt, A.at, A.2.1, c0, c1, eq_false hb1, eq_false hb2]
      refine ⟨i + 1, ?_, by omega⟩
      rw [hI]
      exact ⟨rfl, by simp [upd, e1], by simp [upd, e2], by simp [upd], hlt⟩
    | false =>
      rw [hsv] at c0
      simp (disch := first | omega | (simp only [e_ssz, e_psz, e_hszs, List.length_cons, List.length_nil]; try omega; done)) only [↓reduceIte, go_sem, klBelow_L1, e1, e2, e5, hlt, A.at, A.2.1, c0, c1]
      refine ⟨i + 1, ?_, by omega⟩
      rw [hI]
      exact ⟨rfl, by simp [upd, e1], by simp [upd, e2], by simp [upd], hlt⟩
  · obtain rfl : i = l.length := by omega
    simp (disch := first | omega | (simp only [e_ssz, e_psz, e_hszs, List.length_cons, List.length_nil]; try omega; done)) only [↓reduceIte, go_sem, klBelow_L1, e2, e5, A.at, A.2.1]
    exact hK _ _ sA
end Go.Proofs.Ytkobamedfbgjbaa
