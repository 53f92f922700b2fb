/- CoreBinds: bound. -/
import Derived.Test.YtkobamedfbgjbaaKiA
import Derived.Test.YtkobamedfbgjbaaKlA
namespace Go.Ev
open Go Rep
theorem isSl_push1 {α : Type} [Rep α] {u : U} {h : H} {x : α} {cs : List Value} (t : TypeId) (hx : rep u h x cs) : IsSl (ub u h.size (sz α)) (h.push (.cells cs.toArray t)) (.slice (some ⟨h.size, 0, none⟩) 1 1) [x] := by
  have hl := Rep.len hx
  have st := Step.push S0 u h cs.toArray t (sz α)
  refine ⟨_, _, _, rfl, rfl, Nat.le_refl _, by decide, (fun h => by cases h), fun _ => ⟨h.size, 0, rfl, by simp, by simp [ub], by rw [e_hszpe rfl]; simp [hl], fun i y hy => ?_⟩⟩
  match i, hy with
  | 0, hy =>
    cases hy
    rw [hvs_rows (cs := cs) (fun m hm => ?_) hl]
    · exact Rep.mono st.ge hx
    · rw [e_hvpe rfl]; simp
  | i + 1, hy => simp at hy
theorem isSl_push2 {α : Type} [Rep α] {u : U} {h : H} {x y : α} {cs ds : List Value} (t : TypeId) (hx : rep u h x cs) (hy : rep u h y ds) : IsSl (ub u h.size (2 * sz α)) (h.push (.cells (cs ++ ds).toArray t)) (.slice (some ⟨h.size, 0, none⟩) 2 2) [x, y] := by
  have hl := Rep.len hx
  have hl2 := Rep.len hy
  have st := Step.push S0 u h (cs ++ ds).toArray t (2 * sz α)
  refine ⟨_, _, _, rfl, rfl, Nat.le_refl _, by decide, (fun h => by cases h), fun _ => ⟨h.size, 0, rfl, by simp, by simp [ub], by rw [e_hszpe rfl]; simp [hl, hl2]; omega, fun i z hz => ?_⟩⟩
  match i, hz with
  | 0, hz =>
    cases hz
    rw [hvs_rows (cs := cs) (fun m hm => ?_) hl]
    · exact Rep.mono st.ge hx
    · rw [e_hvpe rfl, List.getD_eq_getElem?_getD, List.getElem?_append_left (by omega), List.getD_eq_getElem?_getD]; simp
  | 1, hz =>
    cases hz
    rw [hvs_rows (cs := ds) (fun m hm => ?_) hl2]
    · exact Rep.mono st.ge hy
    · rw [e_hvpe rfl, List.getD_eq_getElem?_getD, List.getElem?_append_right (by omega), List.getD_eq_getElem?_getD]
      rw [show 0 + 1 * sz α + m - cs.length = m by omega]
  | i + 2, hz => simp at hz
theorem isSl_take {α : Type} [Rep α] {u : U} {h : H} {a : Option Addr} {n c : Nat} {l : List α} (hs : IsSl u h (.slice a n c) l) {k : Nat} (hk : k ≤ l.length) : IsSl u h (.slice a k c) (l.take k) := by
  obtain ⟨a', n', c', h1, h2, h3, h4, h5, h6⟩ := hs
  simp only [Value.slice.injEq] at h1
  obtain ⟨rfl, rfl, rfl⟩ := h1
  have hl : (l.take k).length = k := by rw [List.length_take]; omega
  refine ⟨a, k, c, rfl, hl.symm, by omega, h4, h5, fun hne => ?_⟩
  have hne' : l ≠ [] := fun e => hne (by rw [e]; simp)
  obtain ⟨b, o, e, hb, hu, hz, hr⟩ := h6 hne'
  have := Nat.mul_le_mul_right (Rep.sz α) hk
  refine ⟨b, o, e, hb, by rw [hl]; omega, by rw [hl]; omega, fun i x hx => hr i x ?_⟩
  rw [List.getElem?_take] at hx
  split at hx
  · exact hx
  · cases hx
end Go.Ev
namespace Go.Proofs.Ytkobamedfbgjbaa
open Go Go.Ev Edict
def C_bnd (vs : List Value) (h : H) (K : Value → H → Prop) : Prop := ∃ (u : U) (r : Rule) (l : List Value), vs = [.agg l.toArray] ∧ Rep.rep u h r l ∧ BoundR r ∧ ∀ u' h', Step S0 u h u' h' → K (.bool true) h'
def G_klBound : Ctr := fun f vs h K _ => (f = 36 ∧ C_num vs h K) ∨ (f = 37 ∧ C_below vs h K) ∨ (f = 38 ∧ C_within vs h K)
theorem G_klBound_ok : GOk Try.prog G_klBound := by
  rintro f vs h K KP (⟨rfl, hC⟩ | ⟨rfl, hC⟩ | ⟨rfl, hC⟩)
  · exact klNumbered_ok hC
  · exact klBelow_ok hC
  · exact klWithin_ok hC
theorem klBound_ok {vs : List Value} {h : H} {K : Value → H → Prop} {KP : List PanicEntry → H → Prop} (hC : C_bnd vs h K) : HCX Try.prog 14 vs h K KP := by
  obtain ⟨u, r, l, rfl, hr, hb, hK⟩ := hC
  rw [rep_rule] at hr
  obtain ⟨v0, v1, v2, v3, v4, rfl, i0, i1, i2, i3, i4⟩ := hr
  obtain ⟨a0, c0, rfl, -, -⟩ := i0.sl
  obtain ⟨a1, c1, rfl, -, -⟩ := i1.sl
  obtain ⟨a2, c2, rfl, q1, q2⟩ := i2.sl
  obtain ⟨a3, c3, rfl, q3, q4⟩ := i3.sl
  obtain ⟨a4, c4, rfl, q5, q6⟩ := i4.sl
  have hm := mlen'
  have hfew := hb.few
  obtain ⟨cs, hcs⟩ : ∃ cs : List Value, cs = [.int .i64 r.1.1, .slice a0 r.1.2.length c0, .slice a1 r.2.1.length c1, .slice a2 r.2.2.1.length c2, .slice a3 r.2.2.2.1.length c3, .slice a4 r.2.2.2.2.1.length c4, .int .i64 r.2.2.2.2.2] := ⟨_, rfl⟩
  refine klBound_H G_klBound G_klBound_ok _ ?_
  have sA := Step.push0 S0 u h #[.int .i64 r.1.1, .slice a0 r.1.2.length c0, .slice a1 r.2.1.length c1, .slice a2 r.2.2.1.length c2, .slice a3 r.2.2.2.1.length c3, .slice a4 r.2.2.2.2.1.length c4, .int .i64 r.2.2.2.2.2] 61
  have A : Blk (ub u h.size 0) (h.push (.cells #[.int .i64 r.1.1, .slice a0 r.1.2.length c0, .slice a1 r.2.1.length c1, .slice a2 r.2.2.1.length c2, .slice a3 r.2.2.2.1.length c3, .slice a4 r.2.2.2.2.1.length c4, .int .i64 r.2.2.2.2.2] 61)) h.size cs := by
    rw [hcs]; exact (Blk.mk (by simp only [e_psz]; omega) (by simp (disch := first | omega | (simp only [e_ssz, e_psz, e_hszs, List.length_cons, List.length_nil]; try omega; done)) only [go_sem]) (by simp (disch := first | omega | (simp only [e_ssz, e_psz, e_hszs, List.length_cons, List.length_nil]; try omega; done)) only [go_sem]) (by repeat (first | (refine ub_at ?_; simp only []; done) | apply ub_zero)) (by simp (disch := first | omega | (simp only [e_ssz, e_psz, e_hszs, List.length_cons, List.length_nil]; try omega; done)) only [go_sem]))
  have j0 := i0.mono sA.ge
  have j1 := i1.mono sA.ge
  have j2 := i2.mono sA.ge
  have j3 := i3.mono sA.ge
  have j4 := i4.mono sA.ge
  simp (disch := first | omega | (simp only [e_ssz, e_psz, e_hszs, List.length_cons, List.length_nil]; try omega; done)) only [↓reduceIte, go_sem, klBound_S, klBound_E]
  generalize ub u h.size 0 = u1 at sA A j0 j1 j2 j3 j4
  generalize h.push (.cells #[.int .i64 r.1.1, .slice a0 r.1.2.length c0, .slice a1 r.2.1.length c1, .slice a2 r.2.2.1.length c2, .slice a3 r.2.2.2.1.length c3, .slice a4 r.2.2.2.2.1.length c4, .int .i64 r.2.2.2.2.2] 61) = h1 at sA A j0 j1 j2 j3 j4 ⊢
  rw [hcs] at A
  have hal := A.1
  have hgt := eq_false (show ¬ 16 < (r.2.2.2.2.1.length : Int) by omega)
  simp (disch := first | omega | (simp only [e_ssz, e_psz, e_hszs, List.length_cons, List.length_nil]; try omega; done)) only [go_sem, hgt]
  refine effS_call (.inl ⟨rfl, u1, _, _, _, rfl, j1, hb.num, by omega, fun u2 h2 s2 => ⟨by simp (disch := first | omega | (simp only [e_ssz, e_psz, e_hszs, List.length_cons, List.length_nil]; try omega; done)) only [go_sem], ?_⟩⟩)
  have A2 := A.step0 s2
  have hal2 := A2.1
  simp (disch := first | omega | (simp only [e_ssz, e_psz, e_hszs, List.length_cons, List.length_nil]; try omega; done)) only [↓reduceIte, go_sem, A2.at, A2.2.1, hgt]
  refine effS_call (.inr (.inl ⟨rfl, u2, _, _, _, _, rfl, j0.mono s2.ge, hb.head, fun u3 h3 s3 => ⟨by simp (disch := first | omega | (simp only [e_ssz, e_psz, e_hszs, List.length_cons, List.length_nil]; try omega; done)) only [go_sem], ?_⟩⟩))
  have A3 := A2.step0 s3
  have st3 := (sA.trans0 s2).trans0 s3
  have k2 := (j2.mono s2.ge).mono s3.ge
  have k3 := (j3.mono s2.ge).mono s3.ge
  have k4 := (j4.mono s2.ge).mono s3.ge
  simp (disch := first | omega | (simp only [e_ssz, e_psz, e_hszs, List.length_cons, List.length_nil]; try omega; done)) only [↓reduceIte, go_sem, hgt]
  clear A A2 j0 j1 j2 j3 j4 i0 i1 i2 i3 i4 hal hal2 s2 s3 sA
  obtain ⟨I, hI⟩ : ∃ I : Nat → Env → H → Prop, I = fun i σ h' => σ 1 = .pointer (some ⟨h.size, 0, none⟩) ∧ σ 3 = .int .i64 r.2.2.2.2.1.length ∧ σ 4 = .int .i64 i ∧ i ≤ r.2.2.2.1.length ∧
    ∃ u' : U, Step S0 u h u' h' ∧ Blk u' h' h.size [.int .i64 r.1.1, .slice a0 r.1.2.length c0, .slice a1 r.2.1.length c1, .slice a2 r.2.2.1.length c2, .slice a3 r.2.2.2.1.length c3, .slice a4 r.2.2.2.2.1.length c4, .int .i64 r.2.2.2.2.2] ∧ IsSl u' h' (.slice a2 r.2.2.1.length c2) r.2.2.1 ∧ IsSl u' h' (.slice a3 r.2.2.2.1.length c3) r.2.2.2.1 ∧ IsSl u' h' (.slice a4 r.2.2.2.2.1.length c4) r.2.2.2.2.1 := ⟨_, rfl⟩
  refine wpS_loop I (fun i => r.2.2.2.1.length - i) 0 (by rw [hI]; exact ⟨by simp [upd], by simp [upd], by simp [upd], Nat.zero_le _, u3, st3, A3, k2, k3, k4⟩) ?_
  clear A3 st3 k2 k3 k4
  intro i σ h' hy
  rw [hI] at hy
  obtain ⟨e1, e3, e4, hi, u', st, A, k2, k3, k4⟩ := hy
  have hal := A.1
  by_cases hlt : i < r.2.2.2.1.length
  · obtain ⟨x, hs⟩ : ∃ x, r.2.2.2.1[i]? = some x := ⟨r.2.2.2.1[i], by simp [hlt]⟩
    have hbx := hb.neg x (List.mem_of_getElem? hs)
    have k3k := k3
    obtain ⟨pb, po, rfl, hpb, hpu, hpz, hpr⟩ := k3.row i x hs
    rw [rep_pattern] at hpr
    obtain ⟨xv, hpr, hx⟩ := hpr
    obtain ⟨xa, xc, rfl, -, -⟩ := hx.sl
    simp only [sz_pattern, hvs_2, List.cons.injEq, and_true] at hpr hpu hpz
    obtain ⟨l0, l1⟩ := hpr
    simp (disch := first | omega | (simp only [e_ssz, e_psz, e_hszs, List.length_cons, List.length_nil]; try omega; done)) only [↓reduceIte, go_sem, klBound_L1, e1, e3, e4, A.at, A.2.1, hlt, l0, l1]
    refine effS_call (.inr (.inl ⟨rfl, u', _, _, _, _, rfl, hx, hbx, fun u3 h3 s3 => ⟨by simp (disch := first | omega | (simp only [e_ssz, e_psz, e_hszs, List.length_cons, List.length_nil]; try omega; done)) only [go_sem], ?_⟩⟩))
    simp (disch := first | omega | (simp only [e_ssz, e_psz, e_hszs, List.length_cons, List.length_nil]; try omega; done)) only [↓reduceIte, go_sem, e4]
    refine ⟨i + 1, ?_, by omega⟩
    rw [hI]
    exact ⟨by simp [upd, e1], by simp [upd, e3], by simp [upd], hlt, u3, st.trans0 s3, A.step0 s3, k2.mono s3.ge, k3k.mono s3.ge, k4.mono s3.ge⟩
  · obtain rfl : i = r.2.2.2.1.length := by omega
    simp (disch := first | omega | (simp only [e_ssz, e_psz, e_hszs, List.length_cons, List.length_nil]; try omega; done)) only [↓reduceIte, go_sem, klBound_L1, e1, e4, A.at, A.2.1]
    clear hI
    obtain ⟨J, hJ⟩ : ∃ J : Nat → Env → H → Prop, J = fun i σ h' => σ 1 = .pointer (some ⟨h.size, 0, none⟩) ∧ σ 3 = .int .i64 r.2.2.2.2.1.length ∧ σ 5 = .int .i64 i ∧ i ≤ r.2.2.1.length ∧
      ∃ u' : U, Step S0 u h u' h' ∧ Blk u' h' h.size [.int .i64 r.1.1, .slice a0 r.1.2.length c0, .slice a1 r.2.1.length c1, .slice a2 r.2.2.1.length c2, .slice a3 r.2.2.2.1.length c3, .slice a4 r.2.2.2.2.1.length c4, .int .i64 r.2.2.2.2.2] ∧ IsSl u' h' (.slice a2 r.2.2.1.length c2) r.2.2.1 ∧ IsSl u' h' (.slice a4 r.2.2.2.2.1.length c4) r.2.2.2.2.1 := ⟨_, rfl⟩
    refine wpS_loop J (fun i => r.2.2.1.length - i) 0 (by rw [hJ]; exact ⟨by simp [upd, e1], by simp [upd, e3], by simp [upd], Nat.zero_le _, u', st, A, k2, k4⟩) ?_
    clear e1 e3 e4 st A k2 k3 k4 hal hi hlt
    intro i σ h' hy
    rw [hJ] at hy
    obtain ⟨e1, e3, e5, hi, u', st, A, k2, k4⟩ := hy
    have hal := A.1
    by_cases hlt : i < r.2.2.1.length
    · obtain ⟨x, hs⟩ : ∃ x, r.2.2.1[i]? = some x := ⟨r.2.2.1[i], by simp [hlt]⟩
      have hbx := hb.test x (List.mem_of_getElem? hs)
      have k2k := k2
      obtain ⟨pb, po, rfl, hpb, hpu, hpz, hpr⟩ := k2.row i x hs
      rw [rep_test] at hpr
      simp only [sz_test, hvs_5, List.cons.injEq, and_true] at hpr hpu hpz
      obtain ⟨l0, l1, l2, l3, l4⟩ := hpr
      have sB := Step.push0 S0 u' h' #[.bool x.2.1.1, .int .i64 x.2.1.2] 116
      have AB := A.step0 sB
      have sC := Step.push0 S0 (ub u' h'.size 0) (h'.push (.cells #[.bool x.2.1.1, .int .i64 x.2.1.2] 116)) #[.bool x.2.2.1, .int .i64 x.2.2.2] 116
      have AC := AB.step0 sC
      have stC := (st.trans0 sB).trans0 sC
      have k2C := (k2k.mono sB.ge).mono sC.ge
      have k4C := (k4.mono sB.ge).mono sC.ge
      simp (disch := first | omega | (simp only [e_ssz, e_psz, e_hszs, List.length_cons, List.length_nil]; try omega; done)) only [↓reduceIte, go_sem, klBound_L2, e1, e3, e5, A.at, A.2.1, AB.at, AB.2.1, hlt, l1, l2, l3, l4]
      generalize ub (ub u' h'.size 0) (h'.push (.cells #[.bool x.2.1.1, .int .i64 x.2.1.2] 116)).size 0 = u4 at AC stC k2C k4C
      obtain ⟨h4, hh4⟩ : ∃ h4, h4 = (h'.push (.cells #[.bool x.2.1.1, .int .i64 x.2.1.2] 116)).push (.cells #[.bool x.2.2.1, .int .i64 x.2.2.2] 116) := ⟨_, rfl⟩
      have hs4 : h4.size = h'.size + 1 + 1 := by rw [hh4]; simp only [e_psz]
      rw [← hh4] at AC stC k2C k4C ⊢
      clear hh4
      have sD := Step.push S0 u4 h4 #[.bool x.2.1.1, .int .i64 x.2.1.2, .bool x.2.2.1, .int .i64 x.2.2.2] 116 (2 * Rep.sz Slot)
      have hsl : IsSl (ub u4 h4.size (2 * Rep.sz Slot)) (h4.push (.cells #[.bool x.2.1.1, .int .i64 x.2.1.2, .bool x.2.2.1, .int .i64 x.2.2.2] 116)) (.slice (some ⟨h4.size, 0, none⟩) 2 2) [x.2.1, x.2.2] := isSl_push2 116 (u := u4) (h := h4) (x := x.2.1) (y := x.2.2) (rep_slot.mpr rfl) (rep_slot.mpr rfl)
      rw [hs4] at hsl sD
      refine effS_call (.inr (.inl ⟨rfl, _, _, _, _, _, rfl, hsl, hbx, fun u5 h5 s5 => ⟨by simp (disch := first | omega | (simp only [e_ssz, e_psz, e_hszs, List.length_cons, List.length_nil]; try omega; done)) only [go_sem], ?_⟩⟩))
      simp (disch := first | omega | (simp only [e_ssz, e_psz, e_hszs, List.length_cons, List.length_nil]; try omega; done)) only [↓reduceIte, go_sem, e5]
      refine ⟨i + 1, ?_, by omega⟩
      rw [hJ]
      exact ⟨by simp [upd, e1], by simp [upd, e3], by simp [upd], hlt, u5, (stC.trans0 sD).trans0 s5, (AC.step0 sD).step0 s5, (k2C.mono sD.ge).mono s5.ge, (k4C.mono sD.ge).mono s5.ge⟩
    · obtain rfl : i = r.2.2.1.length := by omega
      simp (disch := first | omega | (simp only [e_ssz, e_psz, e_hszs, List.length_cons, List.length_nil]; try omega; done)) only [↓reduceIte, go_sem, klBound_L2, e1, e5, A.at, A.2.1]
      clear hJ
      obtain ⟨L, hL⟩ : ∃ L : Nat → Env → H → Prop, L = fun i σ h'' => h'' = h' ∧ σ 1 = .pointer (some ⟨h.size, 0, none⟩) ∧ σ 3 = .int .i64 r.2.2.2.2.1.length ∧ σ 8 = .int .i64 i ∧ i ≤ r.2.2.2.2.1.length := ⟨_, rfl⟩
      refine wpS_loop L (fun i => r.2.2.2.2.1.length - i) 0 (by rw [hL]; exact ⟨rfl, by simp [upd, e1], by simp [upd, e3], by simp [upd], Nat.zero_le _⟩) ?_
      clear e1 e3 e5 hi hlt
      intro i σ h'' hy
      rw [hL] at hy
      obtain ⟨rfl, e1, e3, e8, hi⟩ := hy
      by_cases hlt : i < r.2.2.2.2.1.length
      · obtain ⟨x, hs⟩ : ∃ x, r.2.2.2.2.1[i]? = some x := ⟨r.2.2.2.2.1[i], by simp [hlt]⟩
        have hbx := hb.uniq i x hs
        have k4k := k4
        have k4t := isSl_take k4 hi
        obtain ⟨pb, po, rfl, hpb, hpu, hpz, hpr⟩ := k4.row i x hs
        rw [rep_str] at hpr
        simp only [sz_str, hvs_1, List.cons.injEq, and_true] at hpr hpu hpz
        by_cases h95 : x = [95]
        · simp (disch := first | omega | (simp only [e_ssz, e_psz, e_hszs, List.length_cons, List.length_nil]; try omega; done)) only [↓reduceIte, go_sem, klBound_L3, e1, e3, e8, A.at, A.2.1, hlt, hpr, eq_true h95]
          refine ⟨i + 1, ?_, by omega⟩
          rw [hL]
          exact ⟨rfl, by simp [upd, e1], by simp [upd, e3], by simp [upd], hlt⟩
        · simp (disch := first | omega | (simp only [e_ssz, e_psz, e_hszs, List.length_cons, List.length_nil]; try omega; done)) only [↓reduceIte, go_sem, klBound_L3, e1, e3, e8, A.at, A.2.1, hlt, hpr, eq_false h95, eq_true (show i ≤ c4 by omega)]
          refine effS_call (.inr (.inr ⟨rfl, u', _, _, _, rfl, k4t, by simp (disch := first | omega | (simp only [e_ssz, e_psz, e_hszs, List.length_cons, List.length_nil]; try omega; done)) only [go_sem], ?_⟩))
          rw [decide_eq_false (hbx h95)]
          simp (disch := first | omega | (simp only [e_ssz, e_psz, e_hszs, List.length_cons, List.length_nil]; try omega; done)) only [↓reduceIte, go_sem, e8]
          refine ⟨i + 1, ?_, by omega⟩
          rw [hL]
          exact ⟨rfl, by simp [upd, e1], by simp [upd, e3], by simp [upd], hlt⟩
      · obtain rfl : i = r.2.2.2.2.1.length := by omega
        simp (disch := first | omega | (simp only [e_ssz, e_psz, e_hszs, List.length_cons, List.length_nil]; try omega; done)) only [↓reduceIte, go_sem, klBound_L3, e3, e8]
        exact hK _ _ st
end Go.Proofs.Ytkobamedfbgjbaa
