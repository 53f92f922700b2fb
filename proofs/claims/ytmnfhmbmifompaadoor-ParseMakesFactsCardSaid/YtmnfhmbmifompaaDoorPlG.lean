/- The laws' own, walked: taken, ground. -/
import Derived.Test.YtmnfhmbmifompaaDoorPlE
namespace Edict
theorem groundF_false {l : List ClauseT} {c : ClauseT} (hc : c ∈ l) (h : (c.2.isEmpty && c.1.2.1.all fun t => !decide (t.1 = 4)) = false) : groundF l = false := by
  unfold groundF
  rw [List.all_eq_false]
  exact ⟨c, hc, by rw [h]; simp⟩
end Edict
namespace Go.Proofs.YtmnfhmbmifompaaDoor
open Go Go.Ev Edict
def C_pProgU (vs : List Value) (h : H) (K : Value → H → Prop) : Prop := ∃ (u : U) (src : List UInt8), vs = [str src] ∧ src.length ≤ 9223372036854775807 ∧ LxG u h ∧ ∀ u' h' w, Step S0 u h u' h' → Own h.size u' h' w (resProg src).1 → K (.tuple #[.agg #[w], fltV (resProg src).2]) h'
def C_pFacsU (vs : List Value) (h : H) (K : Value → H → Prop) : Prop := ∃ (u : U) (src : List UInt8), vs = [str src] ∧ src.length ≤ 9223372036854775807 ∧ LxG u h ∧ ∀ u' h' w, Step S0 u h u' h' → Own h.size u' h' w (resFacs src).1 → K (.tuple #[w, fltV (resFacs src).2]) h'
theorem psProgU_ok {vs : List Value} {h : H} {K : Value → H → Prop} {KP : List PanicEntry → H → Prop} (hC : C_pProgU vs h K) : HCX Tryd.prog 28 vs h K KP := by
  obtain ⟨u, src, rfl, hl, hG, hK⟩ := hC
  refine psProgram_ok ⟨u, src, rfl, hl, hG, fun e he u' h' s => ?_, fun a ha u' h' w s o => ?_⟩
  · have hr : resProg src = ([], e) := by unfold resProg; rw [he]
    rw [hr] at hK
    exact hK u' h' _ s (.nil _ _ _)
  · have hr : resProg src = (a, (0, 0)) := by unfold resProg; rw [ha]
    rw [hr] at hK
    exact hK u' h' _ s o
theorem psFacsU_ok {vs : List Value} {h : H} {K : Value → H → Prop} {KP : List PanicEntry → H → Prop} (hC : C_pFacsU vs h K) : HCX Tryd.prog 22 vs h K KP := by
  obtain ⟨u, src, rfl, hl, hG, hK⟩ := hC
  refine psFacts_ok ⟨u, src, rfl, hl, hG, fun e he u' h' s => ?_, fun a ha u' h' w s o => ?_⟩
  · have hr : resFacs src = ([], e) := by unfold resFacs; rw [he]
    rw [hr] at hK
    exact hK u' h' _ s (.nil _ _ _)
  · have hr : resFacs src = (a, (0, 0)) := by unfold resFacs; rw [ha]
    rw [hr] at hK
    exact hK u' h' _ s o
def C_taken (vs : List Value) (h : H) (K : Value → H → Prop) : Prop := ∃ (u : U), vs = [] ∧ LxG u h ∧ ∀ u' h', Step S0 u h u' h' → K (.bool true) h'
def G_taken : Ctr := fun f vs h K _ => f = 28 ∧ C_pProgU vs h K
theorem G_taken_ok : GOk Tryd.prog G_taken := by
  rintro f vs h K KP ⟨rfl, hC⟩; exact psProgU_ok hC
theorem plTaken_ok {vs : List Value} {h : H} {K : Value → H → Prop} {KP : List PanicEntry → H → Prop} (hC : C_taken vs h K) : HCX Tryd.prog 29 vs h K KP := by
  obtain ⟨u, rfl, hG, hK⟩ := hC
  refine plTaken_H G_taken G_taken_ok ?_
  simp (disch := first | omega | (simp only [e_ssz, e_psz, e_hszs, List.length_cons, List.length_nil]; try omega; done)) only [go_sem, plTaken_S, plTaken_E]
  refine effS_call ⟨rfl, u, takenT, rfl, by decide, hG, fun u1 h1 w1 s1 o1 => ⟨by simp (disch := first | omega | (simp only [e_ssz, e_psz, e_hszs, List.length_cons, List.length_nil]; try omega; done)) only [go_sem], ?_⟩⟩
  have hr : resProg takenT = ([takenC], (0, 0)) := by unfold resProg; rw [taken_prog]
  rw [hr] at o1 ⊢
  obtain ⟨a1, c1, rfl, m1, m2⟩ := o1.sl
  simp only [fltV, List.length_cons, List.length_nil, Nat.zero_add] at o1 ⊢
  obtain ⟨u2, s2, B1, B2⟩ := two_new (u := u1) (h := h1) [.slice a1 1 c1] [.int .i64 0, .int .i64 0, .int .i64 0] 60 27
  obtain ⟨h2, hh2⟩ : ∃ h2, h2 = (h1.push (.cells #[.slice a1 1 c1] 60)).push (.cells #[.int .i64 0, .int .i64 0, .int .i64 0] 27) := ⟨_, rfl⟩
  rw [← hh2] at s2 B1 B2
  have B21 := B2.1
  have C2 := B2.sets (l := [.int .i64 0, .int .i64 0, .int .i64 0]) rfl
  have s3 := Step.sets (S := fun b => b = h1.size + 1) u2 h2 (b := h1.size + 1) (o := 0) [.int .i64 0, .int .i64 0, .int .i64 0] rfl (by rw [B2.2.2.2.1]; exact Nat.zero_le _) (by rw [B2.2.1]; exact Nat.le_refl _)
  obtain ⟨h3, hh3⟩ : ∃ h3, h3 = hsets h2 (h1.size + 1) 0 [.int .i64 0, .int .i64 0, .int .i64 0] := ⟨_, rfl⟩
  rw [← hh3] at C2 s3
  have C1 := B1.step s3 (by omega)
  have i2 := (o1.isSl.mono s2.ge).mono s3.ge
  obtain ⟨pb, po, rfl, hpb, hpu, hpz, hpr⟩ := i2.row 0 takenC rfl
  rw [rep_clause] at hpr
  obtain ⟨xv, xb, hpr, ixv, ixb⟩ := hpr
  obtain ⟨va, vc, rfl, -, -⟩ := ixv.sl
  obtain ⟨ba, bc, rfl, -, -⟩ := ixb.sl
  obtain ⟨vb, vo, rfl, hvb, hvu, hvz, hvr⟩ := ixv.row 0 (2, 0, [97], 2) rfl
  obtain ⟨lb, lo, rfl, hlb, hlu, hlz, hlr⟩ := ixb.row 0 takenL rfl
  rw [rep_term] at hvr
  rw [rep_lit] at hlr
  obtain ⟨lw, hlr, -⟩ := hlr
  simp only [takenC, takenL, termE, litE, sz_clause, sz_term, sz_lit, hvs_4, hvs_14, List.cons.injEq, and_true, Nat.zero_mul, Nat.add_zero, List.length_cons, List.length_nil, Nat.zero_add] at hpr hpu hpz hvr hvu hvz hlr hlu hlz
  obtain ⟨p0, p1, p2, p3⟩ := hpr
  obtain ⟨v0, v1, v2, v3⟩ := hvr
  obtain ⟨l0, l1, l2, l3, l4, l5, l6, l7, l8, l9, l10, l11, l12, l13⟩ := hlr
  have B11 := C1.1
  have C21 := C2.1
  simp (disch := first | omega | (simp only [e_ssz, e_psz, e_hszs, List.length_cons, List.length_nil]; try omega; done)) only [↓reduceIte, go_sem, ← hh2, B2.2.1, B2.2.2.1, ← hh3, C1.at, C1.2.1, C2.at, C2.2.1, p0, p1, p3, v2, l10]
  exact hK _ _ ((s1.trans0 s2).trans s3 (fun b hb q => by have := s1.ge.sz; omega))
def C_ground (vs : List Value) (h : H) (K : Value → H → Prop) : Prop := ∃ (u : U) (v : Value) (l : List ClauseT), vs = [v] ∧ IsSl u h v l ∧ ∀ u' h', Step S0 u h u' h' → K (.bool (groundF l)) h'
theorem plGround_ok {vs : List Value} {h : H} {K : Value → H → Prop} {KP : List PanicEntry → H → Prop} (hC : C_ground vs h K) : HCX Tryd.prog 40 vs h K KP := by
  obtain ⟨u, v, l, rfl, iv, hK⟩ := hC
  obtain ⟨va, vc, rfl, m1, m2⟩ := iv.sl
  have hm := mlen'
  refine plGround_H (fun _ _ _ _ _ => False) (fun _ _ _ _ _ h => h.elim) _ ?_
  simp (disch := first | omega | (simp only [e_ssz, e_psz, e_hszs, List.length_cons, List.length_nil]; try omega; done)) only [↓reduceIte, go_sem, plGround_S, plGround_E]
  obtain ⟨I, hI⟩ : ∃ I : Nat → Env → H → Prop, I = fun k σ h' => ∃ u', σ 7 = .slice va l.length vc ∧ σ 8 = .int .i64 (l.length : Nat) ∧ σ 9 = .int .i64 k ∧ k ≤ l.length ∧ Step S0 u h u' h' ∧ groundF (l.take k) = true := ⟨_, rfl⟩
  refine wpS_loop I (fun j => l.length - j) 0 (by rw [hI]; exact ⟨u, by simp [upd], by simp [upd], by simp [upd], by omega, Step.refl _ _ _, rfl⟩) ?_
  intro k σ h' hy
  rw [hI] at hy
  obtain ⟨u', e7, e8, e9, hk, st, hg⟩ := hy
  by_cases hlt : k < l.length
  case neg =>
    rw [List.take_of_length_le (by omega)] at hg
    rw [hg] at hK
    simp (disch := first | omega | (simp only [e_ssz, e_psz, e_hszs, List.length_cons, List.length_nil]; try omega; done)) only [↓reduceIte, go_sem, plGround_L1, e8, e9, eq_false (show ¬ (k : Int) < (l.length : Nat) by omega)]
    exact hK _ _ st
  obtain ⟨x, hx⟩ : ∃ x, l[k]? = some x := ⟨l[k], by simp [hlt]⟩
  have hxm := List.mem_of_getElem? hx
  have jv := iv.mono st.ge
  obtain ⟨pb, po, rfl, hpb, hpu, hpz, hpr⟩ := jv.row k x hx
  rw [rep_clause] at hpr
  obtain ⟨xv, xb, hpr, ixv, ixb⟩ := hpr
  obtain ⟨xa, xc, rfl, x1, x2⟩ := ixv.sl
  obtain ⟨za, zc, rfl, z1, z2⟩ := ixb.sl
  simp only [sz_clause, hvs_4, List.cons.injEq, and_true] at hpr hpu hpz
  obtain ⟨p0, p1, p2, p3⟩ := hpr
  obtain ⟨h3, h4, u4, hh3, hh4, B3, B4, s4, hz4⟩ := boxed u' h' [str [], .slice none 0 0, .int .i64 0, .slice none 0 0] [str x.1.1, .slice xa x.1.2.1.length xc, .int .i64 x.1.2.2, .slice za x.2.length zc] 56 rfl
  have B31 := B3.1
  have B41 := B4.1
  have st4 := st.trans0 s4
  by_cases hb : 0 < x.2.length
  · have hgf : groundF l = false := groundF_false hxm (by
      have : x.2.isEmpty = false := by cases hx2 : x.2 with | nil => rw [hx2] at hb; simp at hb | cons _ _ => rfl
      rw [this, Bool.false_and])
    rw [hgf] at hK
    simp (disch := first | omega | (simp only [e_ssz, e_psz, e_hszs, List.length_cons, List.length_nil]; try omega; done)) only [↓reduceIte, go_sem, plGround_L1, e7, e8, e9, eq_true (show (k : Int) < (l.length : Nat) by omega), p0, p1, p2, p3, ← hh3, ← hh4, B3.2.1, B3.2.2.1, B4.at, B4.2.1, eq_true (show (0 : Int) < (x.2.length : Nat) by omega)]
    exact hK _ _ st4
  have hb' : x.2.isEmpty = true := by cases hx2 : x.2 with | nil => rfl | cons _ _ => rw [hx2] at hb; simp at hb
  have ix4 := ixv.mono s4.ge
  simp (disch := first | omega | (simp only [e_ssz, e_psz, e_hszs, List.length_cons, List.length_nil]; try omega; done)) only [↓reduceIte, go_sem, plGround_L1, e7, e8, e9, eq_true (show (k : Int) < (l.length : Nat) by omega), p0, p1, p2, p3, ← hh3, ← hh4, B3.2.1, B3.2.2.1, B4.at, B4.2.1, eq_false (show ¬ (0 : Int) < (x.2.length : Nat) by omega)]
  obtain ⟨al, hal⟩ : ∃ al, al = x.1.2.1 := ⟨_, rfl⟩
  rw [← hal] at ix4 x1 ⊢
  obtain ⟨J, hJ⟩ : ∃ J : Nat → Env → H → Prop, J = fun m σ' h'' => ∃ u'', σ' 7 = .slice (some ⟨pb, po, none⟩) l.length vc ∧ σ' 8 = .int .i64 (l.length : Nat) ∧ σ' 9 = .int .i64 k ∧ σ' 19 = .slice xa al.length xc ∧ σ' 20 = .int .i64 (al.length : Nat) ∧ σ' 21 = .int .i64 m ∧ m ≤ al.length ∧ Step S0 u h u'' h'' ∧ IsSl u'' h'' (.slice xa al.length xc) al ∧ ((al.take m).all fun t => !decide (t.1 = 4)) = true := ⟨_, rfl⟩
  refine wpS_loop J (fun j => al.length - j) 0 (by rw [hJ]; exact ⟨u4, by simp [upd, e7], by simp [upd, e8], by simp [upd, e9], by simp [upd], by simp [upd], by simp [upd], by omega, st4, ix4, rfl⟩) ?_
  clear ix4 B3 B4 B31 B41 hh3 hh4 s4 st4 p0 p1 p2 p3 hpb hpu hpz hz4
  intro m σ' h'' hy
  rw [hJ] at hy
  obtain ⟨u'', f7, f8, f9, f19, f20, f21, hmk, st2, ia, hall⟩ := hy
  by_cases hlt2 : m < al.length
  case neg =>
    rw [List.take_of_length_le (by omega)] at hall
    simp (disch := first | omega | (simp only [e_ssz, e_psz, e_hszs, List.length_cons, List.length_nil]; try omega; done)) only [↓reduceIte, go_sem, plGround_L2, f20, f21, eq_false (show ¬ (m : Int) < (al.length : Nat) by omega), f9]
    refine ⟨k + 1, ?_, by omega⟩
    rw [hI]
    have hg2 : groundF (l.take (k + 1)) = true := by
      rw [List.take_add_one, hx, Option.toList_some, groundF_snoc, hg, hb', ← hal, hall]; rfl
    refine ⟨u'', ?_, ?_, ?_, hlt, st2, hg2⟩ <;> simp [upd, f7, f8]
  obtain ⟨y, hy⟩ : ∃ y, al[m]? = some y := ⟨al[m], by simp [hlt2]⟩
  obtain ⟨qb, qo, rfl, hqb, hqu, hqz, hqr⟩ := ia.row m y hy
  rw [rep_term] at hqr
  simp only [termE, sz_term, hvs_4, List.cons.injEq, and_true] at hqr hqu hqz
  obtain ⟨q0, q1, q2, q3⟩ := hqr
  obtain ⟨h5, h6, u6, hh5, hh6, B5, B6, s6, hz6⟩ := boxed u'' h'' [.int .i64 0, .int .i64 0, str [], .int .i64 0] [.int .i64 y.1, .int .i64 y.2.1, str y.2.2.1, .int .i64 y.2.2.2] 87 rfl
  have B51 := B5.1
  have B61 := B6.1
  have st6 := st2.trans0 s6
  by_cases h4 : y.1 = 4
  · have hgf : groundF l = false := groundF_false hxm (by
      rw [hb', Bool.true_and, ← hal, List.all_eq_false]
      exact ⟨y, List.mem_of_getElem? hy, by simp [h4]⟩)
    rw [hgf] at hK
    simp (disch := first | omega | (simp only [e_ssz, e_psz, e_hszs, List.length_cons, List.length_nil]; try omega; done)) only [↓reduceIte, go_sem, plGround_L2, f19, f20, f21, eq_true (show (m : Int) < (al.length : Nat) by omega), q0, q1, q2, q3, ← hh5, ← hh6, B5.2.1, B5.2.2.1, B6.at, B6.2.1, eq_true h4]
    exact hK _ _ st6
  · simp (disch := first | omega | (simp only [e_ssz, e_psz, e_hszs, List.length_cons, List.length_nil]; try omega; done)) only [↓reduceIte, go_sem, plGround_L2, f19, f20, f21, eq_true (show (m : Int) < (al.length : Nat) by omega), q0, q1, q2, q3, ← hh5, ← hh6, B5.2.1, B5.2.2.1, B6.at, B6.2.1, eq_false h4]
    refine ⟨m + 1, ?_, by omega⟩
    rw [hJ]
    have ha2 : ((al.take (m + 1)).all fun t => !decide (t.1 = 4)) = true := by
      rw [List.take_add_one, hy, Option.toList_some, List.all_append, hall]; simp [h4]
    refine ⟨u6, ?_, ?_, ?_, ?_, ?_, ?_, hlt2, st6, ia.mono s6.ge, ha2⟩ <;> simp [upd, f7, f8, f9, f19, f20]
end Go.Proofs.YtmnfhmbmifompaaDoor
