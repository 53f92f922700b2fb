/- PrintGiven: lines, alike, sameFact. -/
import Derived.Test.YteiopegaiohglaaDoorPgF
namespace Go.Proofs.YteiopegaiohglaaDoor
open Go Go.Ev Edict
theorem two_new {u : U} {h : H} (c1 c2 : List Value) (t1 t2 : TypeId) : ∃ u2, Step S0 u h u2 ((h.push (.cells c1.toArray t1)).push (.cells c2.toArray t2)) ∧ Blk u2 ((h.push (.cells c1.toArray t1)).push (.cells c2.toArray t2)) h.size c1 ∧ Blk u2 ((h.push (.cells c1.toArray t1)).push (.cells c2.toArray t2)) (h.size + 1) c2 :=
  ⟨_, (Step.push0 S0 u h c1.toArray t1).trans0 (Step.push0 S0 _ _ c2.toArray t2), (Blk.new c1 t1).pushR, by have := Blk.new (u := ub u h.size 0) (h := h.push (.cells c1.toArray t1)) c2 t2; simpa using this⟩
def C_alike (vs : List Value) (h : H) (K : Value → H → Prop) : Prop := ∃ (u : U) (p : List UInt8) (v w : Value) (l : List ConstT), vs = [.agg #[str p, v], .agg #[str p, w]] ∧ IsSl u h v l ∧ IsSl u h w l ∧ ∀ u' h', Step S0 u h u' h' → K (.bool true) h'
theorem pgAlike_ok {vs : List Value} {h : H} {K : Value → H → Prop} {KP : List PanicEntry → H → Prop} (hC : C_alike vs h K) : HCX Tryd.prog 9 vs h K KP := by
  obtain ⟨u, p, v, w, l, rfl, iv, iw, hK⟩ := hC
  obtain ⟨va, vc, rfl, m1, m2⟩ := iv.sl
  obtain ⟨wa, wc, rfl, n1, n2⟩ := iw.sl
  have hm := mlen'
  refine pgAlike_H (fun _ _ _ _ _ => False) (fun _ _ _ _ _ h => h.elim) _ _ ?_
  have s1 := (Step.push0 S0 u h #[str p, .slice va l.length vc] 28).trans0 (Step.push0 S0 _ _ #[str p, .slice wa l.length wc] 28)
  have B1 := (Blk.new (u := u) (h := h) [str p, .slice va l.length vc] 28).pushR (c := #[str p, .slice wa l.length wc]) (t := 28)
  have B2 := Blk.new (u := ub u h.size 0) (h := h.push (.cells #[str p, .slice va l.length vc] 28)) [str p, .slice wa l.length wc] 28
  have jv := iv.mono s1.ge
  have jw := iw.mono s1.ge
  have hK' := hK _ _ s1
  obtain ⟨h1, hh1⟩ : ∃ h1, h1 = (h.push (.cells #[str p, .slice va l.length vc] 28)).push (.cells #[str p, .slice wa l.length wc] 28) := ⟨_, rfl⟩
  obtain ⟨u1, hu1⟩ : ∃ u1, u1 = ub (ub u h.size 0) (h.push (.cells #[str p, .slice va l.length vc] 28)).size 0 := ⟨_, rfl⟩
  have B2' : Blk u1 h1 (h.size + 1) [str p, .slice wa l.length wc] := by rw [hu1, hh1]; simpa using B2
  rw [← hh1, ← hu1] at B1 jv jw
  rw [← hh1] at hK'
  clear B2
  have B11 := B1.1
  have B21 := B2'.1
  simp (disch := first | omega | (simp only [e_ssz, e_psz, e_hszs, List.length_cons, List.length_nil]; try omega; done)) only [↓reduceIte, go_sem, pgAlike_S, pgAlike_E, ← hh1, B1.at, B1.2.1, B2'.at, B2'.2.1]
  obtain ⟨I, hI⟩ : ∃ I : Nat → Env → H → Prop, I = fun k σ h' => σ 2 = .pointer (some ⟨h.size, 0, none⟩) ∧ σ 3 = .pointer (some ⟨h.size + 1, 0, none⟩) ∧ σ 5 = .int .i64 k ∧ k ≤ l.length ∧ h' = h1 := ⟨_, rfl⟩
  refine wpS_loop I (fun j => l.length - j) 0 (by rw [hI]; exact ⟨by simp [upd], by simp [upd], by simp [upd], by omega, rfl⟩) ?_
  intro k σ h' hy
  rw [hI] at hy
  obtain ⟨e2, e3, e5, hk, rfl⟩ := hy
  by_cases hlt : k < l.length
  case neg =>
    simp (disch := first | omega | (simp only [e_ssz, e_psz, e_hszs, List.length_cons, List.length_nil]; try omega; done)) only [↓reduceIte, go_sem, pgAlike_L1, e2, e5, B1.at, B1.2.1, eq_false (show ¬ (k : Int) < (l.length : Nat) by omega)]
    exact hK'
  obtain ⟨x, hx⟩ : ∃ x, l[k]? = some x := ⟨l[k], by simp [hlt]⟩
  obtain ⟨pb, po, rfl, hpb, hpu, hpz, hpr⟩ := jv.row k x hx
  obtain ⟨qb, qo, rfl, hqb, hqu, hqz, hqr⟩ := jw.row k x hx
  rw [rep_const] at hpr hqr
  simp only [sz_const, hvs_3, List.cons.injEq, and_true] at hpr hpu hpz hqr hqu hqz
  obtain ⟨p0, p1, p2⟩ := hpr
  obtain ⟨q0, q1, q2⟩ := hqr
  simp (disch := first | omega | (simp only [e_ssz, e_psz, e_hszs, List.length_cons, List.length_nil]; try omega; done)) only [↓reduceIte, go_sem, pgAlike_L1, e2, e3, e5, eq_true (show (k : Int) < (l.length : Nat) by omega), B1.at, B1.2.1, B2'.at, B2'.2.1, p0, p1, p2, q0, q1, q2]
  refine ⟨k + 1, ?_, by omega⟩
  rw [hI]
  refine ⟨?_, ?_, ?_, hlt, rfl⟩ <;> simp [upd, e2, e3]
def C_same (vs : List Value) (h : H) (K : Value → H → Prop) : Prop := ∃ (u : U) (p : List UInt8) (v w : Value) (l : List TermT) (o : Int), vs = [.agg #[str p, w, .int .i64 o], .agg #[str p, v]] ∧ IsSl u h v (l.map constD) ∧ IsSl u h w l ∧ ∀ u' h', Step S0 u h u' h' → K (.bool true) h'
theorem pgSame_ok {vs : List Value} {h : H} {K : Value → H → Prop} {KP : List PanicEntry → H → Prop} (hC : C_same vs h K) : HCX Tryd.prog 11 vs h K KP := by
  obtain ⟨u, p, v, w, l, o, rfl, iv, iw, hK⟩ := hC
  obtain ⟨va, vc, rfl, m1, m2⟩ := iv.sl
  obtain ⟨wa, wc, rfl, n1, n2⟩ := iw.sl
  have hm := mlen'
  have hml : (l.map constD).length = l.length := List.length_map _
  rw [hml] at iv m1
  refine pgSame_H (fun _ _ _ _ _ => False) (fun _ _ _ _ _ h => h.elim) _ _ ?_
  obtain ⟨u1, s1, B1, B2⟩ := two_new (u := u) (h := h) [str p, .slice wa l.length wc, .int .i64 o] [str p, .slice va l.length vc] 42 28
  have jv := iv.mono s1.ge
  have jw := iw.mono s1.ge
  obtain ⟨h1, hh1⟩ : ∃ h1, h1 = (h.push (.cells #[str p, .slice wa l.length wc, .int .i64 o] 42)).push (.cells #[str p, .slice va l.length vc] 28) := ⟨_, rfl⟩
  rw [← hh1] at B1 B2 jv jw s1
  have B11 := B1.1
  have B21 := B2.1
  rw [hml]
  simp (disch := first | omega | (simp only [e_ssz, e_psz, e_hszs, List.length_cons, List.length_nil]; try omega; done)) only [↓reduceIte, go_sem, pgSame_S, pgSame_E, ← hh1, B1.at, B1.2.1, B2.at, B2.2.1]
  obtain ⟨I, hI⟩ : ∃ I : Nat → Env → H → Prop, I = fun k σ h' => ∃ u', σ 2 = .pointer (some ⟨h.size, 0, none⟩) ∧ σ 3 = .pointer (some ⟨h.size + 1, 0, none⟩) ∧ σ 5 = .int .i64 k ∧ k ≤ l.length ∧ Step S0 u1 h1 u' h' := ⟨_, rfl⟩
  refine wpS_loop I (fun j => l.length - j) 0 (by rw [hI]; exact ⟨u1, by simp [upd], by simp [upd], by simp [upd], by omega, .refl _ _ _⟩) ?_
  intro k σ h' hy
  rw [hI] at hy
  obtain ⟨u', e2, e3, e5, hk, st⟩ := hy
  have C1 := B1.step0 st
  have C2 := B2.step0 st
  have c1 := C1.1
  have c2 := C2.1
  by_cases hlt : k < l.length
  case neg =>
    simp (disch := first | omega | (simp only [e_ssz, e_psz, e_hszs, List.length_cons, List.length_nil]; try omega; done)) only [↓reduceIte, go_sem, pgSame_L1, e3, e5, C2.at, C2.2.1, eq_false (show ¬ (k : Int) < (l.length : Nat) by omega)]
    exact hK _ _ (s1.trans0 st)
  obtain ⟨x, hx⟩ : ∃ x, l[k]? = some x := ⟨l[k], by simp [hlt]⟩
  obtain ⟨pb, po, rfl, hpb, hpu, hpz, hpr⟩ := (jv.mono st.ge).row k (constD x) (by rw [List.getElem?_map, hx]; rfl)
  obtain ⟨qb, qo, rfl, hqb, hqu, hqz, hqr⟩ := (jw.mono st.ge).row k x hx
  rw [rep_const, show constD x = (x.1, x.2.1, x.2.2.1) from rfl] at hpr
  rw [rep_term] at hqr
  simp only [termE, sz_const, sz_term, hvs_3, hvs_4, List.cons.injEq, and_true] at hpr hpu hpz hqr hqu hqz
  obtain ⟨p0, p1, p2⟩ := hpr
  obtain ⟨q0, q1, q2, q3⟩ := hqr
  have sT := Step.push0 S0 u' h' #[.int .i64 x.1, .int .i64 x.2.1, str x.2.2.1, .int .i64 x.2.2.2] 67
  have X := Blk.new (u := u') (h := h') [.int .i64 x.1, .int .i64 x.2.1, str x.2.2.1, .int .i64 x.2.2.2] 67
  have D2 := C2.step0 sT
  have d2 := D2.1
  simp (disch := first | omega | (simp only [e_ssz, e_psz, e_hszs, List.length_cons, List.length_nil]; try omega; done)) only [↓reduceIte, go_sem, pgSame_L1, e2, e3, e5, eq_true (show (k : Int) < (l.length : Nat) by omega), C1.at, C1.2.1, C2.at, C2.2.1, D2.at, D2.2.1, p0, p1, p2, q0, q1, q2, q3]
  refine ⟨k + 1, ?_, by omega⟩
  rw [hI]
  exact ⟨_, by simp [upd, e2], by simp [upd, e3], by simp [upd], hlt, st.trans0 sT⟩
/-! ### lines -/
def C_lines (vs : List Value) (h : H) (K : Value → H → Prop) : Prop := ∃ (s : List UInt8) (n : Nat), vs = [str s, .int .i64 (n : Nat)] ∧ LinesP s n ∧ s.length ≤ 100000000 ∧ K (.bool true) h
theorem pgLines_ok {vs : List Value} {h : H} {K : Value → H → Prop} {KP : List PanicEntry → H → Prop} (hC : C_lines vs h K) : HCX Tryd.prog 6 vs h K KP := by
  obtain ⟨s, n, rfl, ⟨h1, h2, h3⟩, hl, hK⟩ := hC
  refine pgLines_H (fun _ _ _ _ _ => False) (fun _ _ _ _ _ h => h.elim) _ _ ?_
  have hcl : ∀ i, (s.take i).count 10 ≤ n := fun i => by rw [← h2]; exact (List.take_sublist i s).count_le 10
  have hnl : n ≤ s.length := by rw [← h2]; exact List.count_le_length
  simp (disch := first | omega | (simp only [e_ssz, e_psz, e_hszs, List.length_cons, List.length_nil]; try omega; done)) only [go_sem, pgLines_S, pgLines_E]
  obtain ⟨I, hI⟩ : ∃ I : Nat → Env → H → Prop, I = fun i σ h' => σ 0 = str s ∧ σ 1 = .int .i64 ((n - (s.take i).count 10 : Nat) : Int) ∧ σ 5 = .int .i64 i ∧ i ≤ s.length ∧ h' = h := ⟨_, rfl⟩
  refine wpS_loop I (fun i => s.length - i) 0 (by rw [hI]; exact ⟨by simp [upd], by simp [upd], by simp [upd], Nat.zero_le _, rfl⟩) ?_
  intro i σ h' hy
  rw [hI] at hy
  obtain ⟨e0, e1, e5, hi, rfl⟩ := hy
  by_cases hlt : i < s.length
  · obtain ⟨b, hb⟩ : ∃ b, s[i]? = some b := ⟨s[i], by simp [hlt]⟩
    have hgd : s.getD i 0 = b := by rw [List.getD_eq_getElem?_getD, hb]; rfl
    have hct : (s.take (i + 1)).count 10 = (s.take i).count 10 + (if b = 10 then 1 else 0) := by
      rw [List.take_add_one, hb, Option.toList_some, List.count_append, List.count_singleton]
      simp only [beq_iff_eq]
    have hc1 := hcl (i + 1)
    by_cases h10 : b.toNat = 10
    · have hb10 : b = 10 := UInt8.toNat_inj.1 h10
      rw [if_pos hb10] at hct
      obtain ⟨i0, hd⟩ : 0 < i ∧ s[i - 1]? = some 46 := by
        rcases h1 i b hb with q | q
        · exact q.2
        · have := q.1; omega
      have hgd1 : s.getD (i - 1) 0 = 46 := by rw [List.getD_eq_getElem?_getD, hd]; rfl
      have ei : ((i : Int) - 1).toNat = i - 1 := by omega
      simp (disch := first | omega | (simp only [e_ssz, e_psz, e_hszs, List.length_cons, List.length_nil]; try omega; done)) only [↓reduceIte, go_sem, pgLines_L1, e0, e1, e5, hlt, hgd, eq_true (show (b.toNat : Int) = 10 by omega), eq_false (show ¬ (i : Int) = 0 by omega), ei, hgd1]
      refine ⟨by omega, by omega, fun q => absurd (show ((46 : UInt8).toNat : Int) = 46 by decide) q, fun _ => ⟨i + 1, ?_, by omega⟩⟩
      rw [hI]
      refine ⟨by simp [upd, e0], ?_, by simp [upd], hlt, rfl⟩
      have : ((n - (s.take i).count 10 : Nat) : Int) - 1 = ((n - (s.take (i + 1)).count 10 : Nat) : Int) := by omega
      simp only [upd, this]
      rfl
    · have hnb : b ≠ 10 := fun q => h10 (by rw [q]; rfl)
      rw [if_neg hnb] at hct
      obtain ⟨r1, r2⟩ : LnB b := by
        rcases h1 i b hb with q | q
        · exact absurd q.1 h10
        · exact q
      simp (disch := first | omega | (simp only [e_ssz, e_psz, e_hszs, List.length_cons, List.length_nil]; try omega; done)) only [↓reduceIte, go_sem, pgLines_L1, e0, e5, hlt, hgd, eq_false (show ¬ (b.toNat : Int) = 10 by omega), eq_false (show ¬ (b.toNat : Int) < 32 by omega), eq_false (show ¬ (126 : Int) < b.toNat by omega)]
      refine ⟨i + 1, ?_, by omega⟩
      rw [hI]
      exact ⟨by simp [upd, e0], by simp [upd, e1, hct], by simp [upd], hlt, rfl⟩
  · obtain rfl : i = s.length := by omega
    rw [List.take_length, h2, Nat.sub_self] at e1
    simp (disch := first | omega | (simp only [e_ssz, e_psz, e_hszs, List.length_cons, List.length_nil]; try omega; done)) only [↓reduceIte, go_sem, pgLines_L1, e0, e1, e5]
    refine ⟨fun q => ?_, ?_⟩
    · have := List.length_pos_iff.2 q
      omega
    by_cases hs : s = []
    · rw [decide_eq_true hs]; exact hK
    · have hgl : s.getD ((s.length : Int) - 1).toNat 0 = 10 := by
        rw [show ((s.length : Int) - 1).toNat = s.length - 1 by omega, List.getD_eq_getElem?_getD, h3 hs]; rfl
      rw [hgl, decide_eq_false hs]; exact hK
end Go.Proofs.YteiopegaiohglaaDoor
