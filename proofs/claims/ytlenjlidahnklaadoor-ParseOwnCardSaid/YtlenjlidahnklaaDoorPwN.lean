/- ParseOwn: stands. -/
import Derived.Test.YtlenjlidahnklaaDoorPwM
import Derived.Test.YtlenjlidahnklaaDoorPwU
namespace Go.Proofs.YtlenjlidahnklaaDoor
open Go Go.Ev Edict HasTags
def C_stands (vs : List Value) (h : H) (K : Value → H → Prop) : Prop := ∃ (u : U) (bb : Nat) (L0 : List (RmE 3)) (L2 : List (RmE 13)) (L4 : List (RmE 3)) (L6 : List (RmE 2)) (L8 : List (RmE 2)) (v0 w1 v2 w3 v4 w5 v6 w7 v8 w9 : Value), vs = [.pointer (some ⟨bb, 0, none⟩)] ∧ BkFin u h bb L0 L2 L4 L6 L8 v0 w1 v2 w3 v4 w5 v6 w7 v8 w9 ∧ K (.bool true) h
def G_stands : Ctr := fun f vs h K _ => f = 23 ∧ C_mark vs h K
theorem G_stands_ok : GOk Tryd.prog G_stands := by
  rintro f vs h K KP ⟨rfl, hC⟩; exact owMark_ok hC
theorem owStands_ok {vs : List Value} {h : H} {K : Value → H → Prop} {KP : List PanicEntry → H → Prop} (hC : C_stands vs h K) : HCX Tryd.prog 9 vs h K KP := by
  obtain ⟨u, bb, L0, L2, L4, L6, L8, v0, w1, v2, w3, v4, w5, v6, w7, v8, w9, rfl, ⟨B, AL0, ML0, AL2, ML2, AL4, ML4, AL6, ML6, AL8, ML8⟩, hK⟩ := hC
  have hm := mlenW
  obtain ⟨av0, cv0, rfl, xv0, yv0⟩ := AL0.sl
  obtain ⟨dv0, gv0, rfl, -, -⟩ := ML0.sl
  rw [mks_len] at xv0
  obtain ⟨av2, cv2, rfl, xv2, yv2⟩ := AL2.sl
  obtain ⟨dv2, gv2, rfl, -, -⟩ := ML2.sl
  rw [mks_len] at xv2
  obtain ⟨av4, cv4, rfl, xv4, yv4⟩ := AL4.sl
  obtain ⟨dv4, gv4, rfl, -, -⟩ := ML4.sl
  rw [mks_len] at xv4
  obtain ⟨av6, cv6, rfl, xv6, yv6⟩ := AL6.sl
  obtain ⟨dv6, gv6, rfl, -, -⟩ := ML6.sl
  rw [mks_len] at xv6
  obtain ⟨av8, cv8, rfl, xv8, yv8⟩ := AL8.sl
  obtain ⟨dv8, gv8, rfl, -, -⟩ := ML8.sl
  rw [mks_len] at xv8
  simp only [mks_len] at AL0 ML0 AL2 ML2 AL4 ML4 AL6 ML6 AL8 ML8 B
  refine owStands_H G_stands G_stands_ok _ ?_
  unfold bkF at B
  have B1 := B.1
  simp (disch := first | omega | (simp only [e_ssz, e_psz, e_hszs, List.length_cons, List.length_nil]; try omega; done)) only [↓reduceIte, go_sem, owStands_S, owStands_E, B.at, B.2.1]
  -- L0
  obtain ⟨I, hI⟩ : ∃ I : Nat → Env → H → Prop, I = fun i σ h' => σ 0 = .pointer (some ⟨bb, 0, none⟩) ∧ σ 21 = .slice dv0 L0.length gv0 ∧ σ 22 = .int .i64 (L0.length : Nat) ∧ σ 23 = .int .i64 (i : Nat) ∧ i ≤ L0.length ∧ h' = h := ⟨_, rfl⟩
  refine wpS_loop I (fun j => L0.length - j) 0 (by rw [hI]; exact ⟨by simp [upd], by simp [upd], by simp [upd], by simp [upd], Nat.zero_le _, rfl⟩) ?_
  intro i σ h' hy
  rw [hI] at hy
  obtain ⟨e0, es, el, ei, hi, hh⟩ := hy
  have hh := hh.symm
  subst hh
  by_cases hlt : i < L0.length
  · obtain ⟨g, hg⟩ : ∃ g, L0[i]? = some g := ⟨L0[i], by simp [hlt]⟩
    obtain ⟨pb, po, ha, -, -, hpz, hpr⟩ := ML0.row i _ (mks_at hg)
    obtain ⟨qb, qo, hb, -, -, hqz, hqr⟩ := AL0.row i _ (mks_at hg)
    subst ha hb
    rw [rep_list] at hpr hqr
    obtain ⟨xv, hpr, ix⟩ := hpr
    obtain ⟨yv, hqr, iy⟩ := hqr
    obtain ⟨xa, xc, rfl, hxl, hxm⟩ := ix.sl
    obtain ⟨ya, yc, rfl, -, -⟩ := iy.sl
    rw [marks_len] at ix hpr hxl
    rw [marks_len] at iy hqr
    simp only [Nat.add_zero] at iy hqr
    simp only [sz_lst, hvs_1, List.cons.injEq, and_true] at hpr hqr hpz hqz
    simp (disch := first | omega | (simp only [e_ssz, e_psz, e_hszs, List.length_cons, List.length_nil]; try omega; done)) only [↓reduceIte, go_sem, owStands_L1, es, el, ei, hlt, hpr]
    obtain ⟨J, hJ⟩ : ∃ J : Nat → Env → H → Prop, J = fun j σ' h2 => σ' 0 = σ 0 ∧ σ' 21 = σ 21 ∧ σ' 22 = σ 22 ∧ σ' 23 = σ 23 ∧ σ' 3 = .int .i64 (i : Nat) ∧ σ' 4 = .slice xa (g.n + 1) xc ∧ σ' 29 = .int .i64 ((g.n : Int) + 1) ∧ σ' 30 = .int .i64 (j : Nat) ∧ j ≤ g.n + 1 ∧ h2 = h := ⟨_, rfl⟩
    refine wpS_loop J (fun j => g.n + 1 - j) 0 (by rw [hJ]; exact ⟨by simp [upd], by simp [upd], by simp [upd], by simp [upd], by simp [upd], by simp [upd], by simp [upd], by simp [upd], Nat.zero_le _, rfl⟩) ?_
    intro j σ' h2 hz
    rw [hJ] at hz
    obtain ⟨f0, fs, fl, fi, fit, flt, fl2, fi2, hj, hh⟩ := hz
    have hh := hh.symm
    subst hh
    rw [e0] at f0
    rw [es] at fs
    rw [el] at fl
    rw [ei] at fi
    by_cases hjn : j < g.n + 1
    · obtain ⟨rb, ro, hc, -, -, hrz, hrr⟩ := ix.row j _ (marks_at hjn)
      subst hc
      obtain ⟨r1, r2⟩ := mk_cell hrr (show 3 < 3 + 1 by decide)
      have r2 := r2 rfl
      rw [show Rep.sz (MkE 3 3 true) = 4 from rfl] at r1 r2 hrz
      have fin : ∀ σ2 : Env, σ2 0 = σ' 0 → σ2 21 = σ' 21 → σ2 22 = σ' 22 → σ2 23 = σ' 23 → σ2 3 = σ' 3 → σ2 4 = σ' 4 → σ2 29 = σ' 29 → σ2 30 = .int .i64 ((j : Int) + 1) → ∃ y, J y σ2 h ∧ g.n + 1 - y < g.n + 1 - j := fun σ2 k0 k1 k2 k3 k4 k5 k6 k7 => by
        refine ⟨j + 1, ?_, by omega⟩
        rw [hJ]
        exact ⟨by rw [k0, f0, e0], by rw [k1, fs, es], by rw [k2, fl, el], by rw [k3, fi, ei], by rw [k4, fit], by rw [k5, flt], by rw [k6, fl2], k7, hjn, rfl⟩
      by_cases hjg : j < g.n
      · obtain ⟨tb, to, hd, -, -, htz, htr⟩ := iy.row j _ (marks_at hjg)
        subst hd
        obtain ⟨t1, -⟩ := mk_cell htr (show 3 < 3 + 1 by decide)
        rw [show Rep.sz (MkE 3 3 true) = 4 from rfl] at t1 htz
        simp (disch := first | omega | (simp only [e_ssz, e_psz, e_hszs, List.length_cons, List.length_nil]; try omega; done)) only [↓reduceIte, go_sem, owStands_L2, fit, flt, fl2, fi2, eq_true (show (j : Int) < (g.n : Int) + 1 by omega), hjn, r1]
        refine effS_call ⟨rfl, i, j, rfl, ⟨by simp (disch := first | omega | (simp only [e_ssz, e_psz, e_hszs, List.length_cons, List.length_nil]; try omega; done)) only [↓reduceIte, go_sem, flt, r1], ?_⟩⟩
        simp (disch := first | omega | (simp only [e_ssz, e_psz, e_hszs, List.length_cons, List.length_nil]; try omega; done)) only [↓reduceIte, go_sem, f0, fit, flt, hjn, r2, B.at, B.2.1, hqr, hlt, eq_true (show (j : Int) < (g.n : Nat) by omega), t1]
        refine effS_call ⟨rfl, i, j, rfl, ⟨by simp (disch := first | omega | (simp only [e_ssz, e_psz, e_hszs, List.length_cons, List.length_nil]; try omega; done)) only [↓reduceIte, go_sem, f0, B.at, B.2.1, hqr, t1], ?_⟩⟩
        simp (disch := first | omega | (simp only [e_ssz, e_psz, e_hszs, List.length_cons, List.length_nil]; try omega; done)) only [↓reduceIte, go_sem, fi2]
        exact fin _ (by simp [upd]) (by simp [upd]) (by simp [upd]) (by simp [upd]) (by simp [upd]) (by simp [upd]) (by simp [upd]) (by simp [upd])
      · simp (disch := first | omega | (simp only [e_ssz, e_psz, e_hszs, List.length_cons, List.length_nil]; try omega; done)) only [↓reduceIte, go_sem, owStands_L2, fit, flt, fl2, fi2, eq_true (show (j : Int) < (g.n : Int) + 1 by omega), hjn, r1]
        refine effS_call ⟨rfl, i, j, rfl, ⟨by simp (disch := first | omega | (simp only [e_ssz, e_psz, e_hszs, List.length_cons, List.length_nil]; try omega; done)) only [↓reduceIte, go_sem, flt, r1], ?_⟩⟩
        simp (disch := first | omega | (simp only [e_ssz, e_psz, e_hszs, List.length_cons, List.length_nil]; try omega; done)) only [↓reduceIte, go_sem, f0, fit, flt, fi2, hjn, r2, B.at, B.2.1, hqr, hlt, eq_false (show ¬ (j : Int) < (g.n : Nat) by omega)]
        exact fin _ (by simp [upd]) (by simp [upd]) (by simp [upd]) (by simp [upd]) (by simp [upd]) (by simp [upd]) (by simp [upd]) (by simp [upd])
    · obtain rfl : j = g.n + 1 := by omega
      simp (disch := first | omega | (simp only [e_ssz, e_psz, e_hszs, List.length_cons, List.length_nil]; try omega; done)) only [↓reduceIte, go_sem, owStands_L2, fi, fl2, fi2, eq_false (show ¬ ((g.n + 1 : Nat) : Int) < (g.n : Int) + 1 by omega)]
      refine ⟨i + 1, ?_, by omega⟩
      rw [hI]
      exact ⟨by simp [upd, f0], by simp [upd, fs], by simp [upd, fl], by simp [upd], hlt, rfl⟩
  obtain rfl : i = L0.length := by omega
  clear hI
  simp (disch := first | omega | (simp only [e_ssz, e_psz, e_hszs, List.length_cons, List.length_nil]; try omega; done)) only [↓reduceIte, go_sem, owStands_L1, e0, el, ei, B.at, B.2.1]
  clear es el ei hi hlt
  -- L2
  obtain ⟨I, hI⟩ : ∃ I : Nat → Env → H → Prop, I = fun i σ h' => σ 0 = .pointer (some ⟨bb, 0, none⟩) ∧ σ 84 = .slice dv2 L2.length gv2 ∧ σ 85 = .int .i64 (L2.length : Nat) ∧ σ 86 = .int .i64 (i : Nat) ∧ i ≤ L2.length ∧ h' = h := ⟨_, rfl⟩
  refine wpS_loop I (fun j => L2.length - j) 0 (by rw [hI]; exact ⟨by simp [upd, e0], by simp [upd], by simp [upd], by simp [upd], Nat.zero_le _, rfl⟩) ?_
  clear e0
  intro i σ h' hy
  rw [hI] at hy
  obtain ⟨e0, es, el, ei, hi, hh⟩ := hy
  have hh := hh.symm
  subst hh
  by_cases hlt : i < L2.length
  · obtain ⟨g, hg⟩ : ∃ g, L2[i]? = some g := ⟨L2[i], by simp [hlt]⟩
    obtain ⟨pb, po, ha, -, -, hpz, hpr⟩ := ML2.row i _ (mks_at hg)
    obtain ⟨qb, qo, hb, -, -, hqz, hqr⟩ := AL2.row i _ (mks_at hg)
    subst ha hb
    rw [rep_list] at hpr hqr
    obtain ⟨xv, hpr, ix⟩ := hpr
    obtain ⟨yv, hqr, iy⟩ := hqr
    obtain ⟨xa, xc, rfl, hxl, hxm⟩ := ix.sl
    obtain ⟨ya, yc, rfl, -, -⟩ := iy.sl
    rw [marks_len] at ix hpr hxl
    rw [marks_len] at iy hqr
    simp only [Nat.add_zero] at iy hqr
    simp only [sz_lst, hvs_1, List.cons.injEq, and_true] at hpr hqr hpz hqz
    simp (disch := first | omega | (simp only [e_ssz, e_psz, e_hszs, List.length_cons, List.length_nil]; try omega; done)) only [↓reduceIte, go_sem, owStands_L3, es, el, ei, hlt, hpr]
    obtain ⟨J, hJ⟩ : ∃ J : Nat → Env → H → Prop, J = fun j σ' h2 => σ' 0 = σ 0 ∧ σ' 84 = σ 84 ∧ σ' 85 = σ 85 ∧ σ' 86 = σ 86 ∧ σ' 6 = .int .i64 (i : Nat) ∧ σ' 7 = .slice xa (g.n + 1) xc ∧ σ' 92 = .int .i64 ((g.n : Int) + 1) ∧ σ' 93 = .int .i64 (j : Nat) ∧ j ≤ g.n + 1 ∧ h2 = h := ⟨_, rfl⟩
    refine wpS_loop J (fun j => g.n + 1 - j) 0 (by rw [hJ]; exact ⟨by simp [upd], by simp [upd], by simp [upd], by simp [upd], by simp [upd], by simp [upd], by simp [upd], by simp [upd], Nat.zero_le _, rfl⟩) ?_
    intro j σ' h2 hz
    rw [hJ] at hz
    obtain ⟨f0, fs, fl, fi, fit, flt, fl2, fi2, hj, hh⟩ := hz
    have hh := hh.symm
    subst hh
    rw [e0] at f0
    rw [es] at fs
    rw [el] at fl
    rw [ei] at fi
    by_cases hjn : j < g.n + 1
    · obtain ⟨rb, ro, hc, -, -, hrz, hrr⟩ := ix.row j _ (marks_at hjn)
      subst hc
      obtain ⟨r1, r2⟩ := mk_cell hrr (show 13 < 13 + 1 by decide)
      rw [show Rep.sz (MkE 13 13 false) = 14 from rfl] at r1 hrz
      have fin : ∀ σ2 : Env, σ2 0 = σ' 0 → σ2 84 = σ' 84 → σ2 85 = σ' 85 → σ2 86 = σ' 86 → σ2 6 = σ' 6 → σ2 7 = σ' 7 → σ2 92 = σ' 92 → σ2 93 = .int .i64 ((j : Int) + 1) → ∃ y, J y σ2 h ∧ g.n + 1 - y < g.n + 1 - j := fun σ2 k0 k1 k2 k3 k4 k5 k6 k7 => by
        refine ⟨j + 1, ?_, by omega⟩
        rw [hJ]
        exact ⟨by rw [k0, f0, e0], by rw [k1, fs, es], by rw [k2, fl, el], by rw [k3, fi, ei], by rw [k4, fit], by rw [k5, flt], by rw [k6, fl2], k7, hjn, rfl⟩
      by_cases hjg : j < g.n
      · obtain ⟨tb, to, hd, -, -, htz, htr⟩ := iy.row j _ (marks_at hjg)
        subst hd
        obtain ⟨t1, -⟩ := mk_cell htr (show 13 < 13 + 1 by decide)
        rw [show Rep.sz (MkE 13 13 false) = 14 from rfl] at t1 htz
        simp (disch := first | omega | (simp only [e_ssz, e_psz, e_hszs, List.length_cons, List.length_nil]; try omega; done)) only [↓reduceIte, go_sem, owStands_L4, fit, flt, fl2, fi2, eq_true (show (j : Int) < (g.n : Int) + 1 by omega), hjn, r1]
        refine effS_call ⟨rfl, i, j, rfl, ⟨by simp (disch := first | omega | (simp only [e_ssz, e_psz, e_hszs, List.length_cons, List.length_nil]; try omega; done)) only [↓reduceIte, go_sem, flt, r1], ?_⟩⟩
        simp (disch := first | omega | (simp only [e_ssz, e_psz, e_hszs, List.length_cons, List.length_nil]; try omega; done)) only [↓reduceIte, go_sem, f0, fit, B.at, B.2.1, hqr, hlt, eq_true (show (j : Int) < (g.n : Nat) by omega), t1]
        refine effS_call ⟨rfl, i, j, rfl, ⟨by simp (disch := first | omega | (simp only [e_ssz, e_psz, e_hszs, List.length_cons, List.length_nil]; try omega; done)) only [↓reduceIte, go_sem, f0, B.at, B.2.1, hqr, t1], ?_⟩⟩
        simp (disch := first | omega | (simp only [e_ssz, e_psz, e_hszs, List.length_cons, List.length_nil]; try omega; done)) only [↓reduceIte, go_sem, fi2]
        exact fin _ (by simp [upd]) (by simp [upd]) (by simp [upd]) (by simp [upd]) (by simp [upd]) (by simp [upd]) (by simp [upd]) (by simp [upd])
      · simp (disch := first | omega | (simp only [e_ssz, e_psz, e_hszs, List.length_cons, List.length_nil]; try omega; done)) only [↓reduceIte, go_sem, owStands_L4, fit, flt, fl2, fi2, eq_true (show (j : Int) < (g.n : Int) + 1 by omega), hjn, r1]
        refine effS_call ⟨rfl, i, j, rfl, ⟨by simp (disch := first | omega | (simp only [e_ssz, e_psz, e_hszs, List.length_cons, List.length_nil]; try omega; done)) only [↓reduceIte, go_sem, flt, r1], ?_⟩⟩
        simp (disch := first | omega | (simp only [e_ssz, e_psz, e_hszs, List.length_cons, List.length_nil]; try omega; done)) only [↓reduceIte, go_sem, f0, fit, fi2, B.at, B.2.1, hqr, hlt, eq_false (show ¬ (j : Int) < (g.n : Nat) by omega)]
        exact fin _ (by simp [upd]) (by simp [upd]) (by simp [upd]) (by simp [upd]) (by simp [upd]) (by simp [upd]) (by simp [upd]) (by simp [upd])
    · obtain rfl : j = g.n + 1 := by omega
      simp (disch := first | omega | (simp only [e_ssz, e_psz, e_hszs, List.length_cons, List.length_nil]; try omega; done)) only [↓reduceIte, go_sem, owStands_L4, fi, fl2, fi2, eq_false (show ¬ ((g.n + 1 : Nat) : Int) < (g.n : Int) + 1 by omega)]
      refine ⟨i + 1, ?_, by omega⟩
      rw [hI]
      exact ⟨by simp [upd, f0], by simp [upd, fs], by simp [upd, fl], by simp [upd], hlt, rfl⟩
  obtain rfl : i = L2.length := by omega
  clear hI
  simp (disch := first | omega | (simp only [e_ssz, e_psz, e_hszs, List.length_cons, List.length_nil]; try omega; done)) only [↓reduceIte, go_sem, owStands_L3, e0, el, ei, B.at, B.2.1]
  clear es el ei hi hlt
  -- L4
  obtain ⟨I, hI⟩ : ∃ I : Nat → Env → H → Prop, I = fun i σ h' => σ 0 = .pointer (some ⟨bb, 0, none⟩) ∧ σ 139 = .slice dv4 L4.length gv4 ∧ σ 140 = .int .i64 (L4.length : Nat) ∧ σ 141 = .int .i64 (i : Nat) ∧ i ≤ L4.length ∧ h' = h := ⟨_, rfl⟩
  refine wpS_loop I (fun j => L4.length - j) 0 (by rw [hI]; exact ⟨by simp [upd, e0], by simp [upd], by simp [upd], by simp [upd], Nat.zero_le _, rfl⟩) ?_
  clear e0
  intro i σ h' hy
  rw [hI] at hy
  obtain ⟨e0, es, el, ei, hi, hh⟩ := hy
  have hh := hh.symm
  subst hh
  by_cases hlt : i < L4.length
  · obtain ⟨g, hg⟩ : ∃ g, L4[i]? = some g := ⟨L4[i], by simp [hlt]⟩
    obtain ⟨pb, po, ha, -, -, hpz, hpr⟩ := ML4.row i _ (mks_at hg)
    obtain ⟨qb, qo, hb, -, -, hqz, hqr⟩ := AL4.row i _ (mks_at hg)
    subst ha hb
    rw [rep_list] at hpr hqr
    obtain ⟨xv, hpr, ix⟩ := hpr
    obtain ⟨yv, hqr, iy⟩ := hqr
    obtain ⟨xa, xc, rfl, hxl, hxm⟩ := ix.sl
    obtain ⟨ya, yc, rfl, -, -⟩ := iy.sl
    rw [marks_len] at ix hpr hxl
    rw [marks_len] at iy hqr
    simp only [Nat.add_zero] at iy hqr
    simp only [sz_lst, hvs_1, List.cons.injEq, and_true] at hpr hqr hpz hqz
    simp (disch := first | omega | (simp only [e_ssz, e_psz, e_hszs, List.length_cons, List.length_nil]; try omega; done)) only [↓reduceIte, go_sem, owStands_L5, es, el, ei, hlt, hpr]
    obtain ⟨J, hJ⟩ : ∃ J : Nat → Env → H → Prop, J = fun j σ' h2 => σ' 0 = σ 0 ∧ σ' 139 = σ 139 ∧ σ' 140 = σ 140 ∧ σ' 141 = σ 141 ∧ σ' 9 = .int .i64 (i : Nat) ∧ σ' 10 = .slice xa (g.n + 1) xc ∧ σ' 147 = .int .i64 ((g.n : Int) + 1) ∧ σ' 148 = .int .i64 (j : Nat) ∧ j ≤ g.n + 1 ∧ h2 = h := ⟨_, rfl⟩
    refine wpS_loop J (fun j => g.n + 1 - j) 0 (by rw [hJ]; exact ⟨by simp [upd], by simp [upd], by simp [upd], by simp [upd], by simp [upd], by simp [upd], by simp [upd], by simp [upd], Nat.zero_le _, rfl⟩) ?_
    intro j σ' h2 hz
    rw [hJ] at hz
    obtain ⟨f0, fs, fl, fi, fit, flt, fl2, fi2, hj, hh⟩ := hz
    have hh := hh.symm
    subst hh
    rw [e0] at f0
    rw [es] at fs
    rw [el] at fl
    rw [ei] at fi
    by_cases hjn : j < g.n + 1
    · obtain ⟨rb, ro, hc, -, -, hrz, hrr⟩ := ix.row j _ (marks_at hjn)
      subst hc
      obtain ⟨r1, r2⟩ := mk_cell hrr (show 2 < 3 + 1 by decide)
      rw [show Rep.sz (MkE 3 2 false) = 4 from rfl] at r1 hrz
      have fin : ∀ σ2 : Env, σ2 0 = σ' 0 → σ2 139 = σ' 139 → σ2 140 = σ' 140 → σ2 141 = σ' 141 → σ2 9 = σ' 9 → σ2 10 = σ' 10 → σ2 147 = σ' 147 → σ2 148 = .int .i64 ((j : Int) + 1) → ∃ y, J y σ2 h ∧ g.n + 1 - y < g.n + 1 - j := fun σ2 k0 k1 k2 k3 k4 k5 k6 k7 => by
        refine ⟨j + 1, ?_, by omega⟩
        rw [hJ]
        exact ⟨by rw [k0, f0, e0], by rw [k1, fs, es], by rw [k2, fl, el], by rw [k3, fi, ei], by rw [k4, fit], by rw [k5, flt], by rw [k6, fl2], k7, hjn, rfl⟩
      by_cases hjg : j < g.n
      · obtain ⟨tb, to, hd, -, -, htz, htr⟩ := iy.row j _ (marks_at hjg)
        subst hd
        obtain ⟨t1, -⟩ := mk_cell htr (show 2 < 3 + 1 by decide)
        rw [show Rep.sz (MkE 3 2 false) = 4 from rfl] at t1 htz
        simp (disch := first | omega | (simp only [e_ssz, e_psz, e_hszs, List.length_cons, List.length_nil]; try omega; done)) only [↓reduceIte, go_sem, owStands_L6, fit, flt, fl2, fi2, eq_true (show (j : Int) < (g.n : Int) + 1 by omega), hjn, r1]
        refine effS_call ⟨rfl, i, j, rfl, ⟨by simp (disch := first | omega | (simp only [e_ssz, e_psz, e_hszs, List.length_cons, List.length_nil]; try omega; done)) only [↓reduceIte, go_sem, flt, r1], ?_⟩⟩
        simp (disch := first | omega | (simp only [e_ssz, e_psz, e_hszs, List.length_cons, List.length_nil]; try omega; done)) only [↓reduceIte, go_sem, f0, fit, B.at, B.2.1, hqr, hlt, eq_true (show (j : Int) < (g.n : Nat) by omega), t1]
        refine effS_call ⟨rfl, i, j, rfl, ⟨by simp (disch := first | omega | (simp only [e_ssz, e_psz, e_hszs, List.length_cons, List.length_nil]; try omega; done)) only [↓reduceIte, go_sem, f0, B.at, B.2.1, hqr, t1], ?_⟩⟩
        simp (disch := first | omega | (simp only [e_ssz, e_psz, e_hszs, List.length_cons, List.length_nil]; try omega; done)) only [↓reduceIte, go_sem, fi2]
        exact fin _ (by simp [upd]) (by simp [upd]) (by simp [upd]) (by simp [upd]) (by simp [upd]) (by simp [upd]) (by simp [upd]) (by simp [upd])
      · simp (disch := first | omega | (simp only [e_ssz, e_psz, e_hszs, List.length_cons, List.length_nil]; try omega; done)) only [↓reduceIte, go_sem, owStands_L6, fit, flt, fl2, fi2, eq_true (show (j : Int) < (g.n : Int) + 1 by omega), hjn, r1]
        refine effS_call ⟨rfl, i, j, rfl, ⟨by simp (disch := first | omega | (simp only [e_ssz, e_psz, e_hszs, List.length_cons, List.length_nil]; try omega; done)) only [↓reduceIte, go_sem, flt, r1], ?_⟩⟩
        simp (disch := first | omega | (simp only [e_ssz, e_psz, e_hszs, List.length_cons, List.length_nil]; try omega; done)) only [↓reduceIte, go_sem, f0, fit, fi2, B.at, B.2.1, hqr, hlt, eq_false (show ¬ (j : Int) < (g.n : Nat) by omega)]
        exact fin _ (by simp [upd]) (by simp [upd]) (by simp [upd]) (by simp [upd]) (by simp [upd]) (by simp [upd]) (by simp [upd]) (by simp [upd])
    · obtain rfl : j = g.n + 1 := by omega
      simp (disch := first | omega | (simp only [e_ssz, e_psz, e_hszs, List.length_cons, List.length_nil]; try omega; done)) only [↓reduceIte, go_sem, owStands_L6, fi, fl2, fi2, eq_false (show ¬ ((g.n + 1 : Nat) : Int) < (g.n : Int) + 1 by omega)]
      refine ⟨i + 1, ?_, by omega⟩
      rw [hI]
      exact ⟨by simp [upd, f0], by simp [upd, fs], by simp [upd, fl], by simp [upd], hlt, rfl⟩
  obtain rfl : i = L4.length := by omega
  clear hI
  simp (disch := first | omega | (simp only [e_ssz, e_psz, e_hszs, List.length_cons, List.length_nil]; try omega; done)) only [↓reduceIte, go_sem, owStands_L5, e0, el, ei, B.at, B.2.1]
  clear es el ei hi hlt
  -- L6
  obtain ⟨I, hI⟩ : ∃ I : Nat → Env → H → Prop, I = fun i σ h' => σ 0 = .pointer (some ⟨bb, 0, none⟩) ∧ σ 196 = .slice dv6 L6.length gv6 ∧ σ 197 = .int .i64 (L6.length : Nat) ∧ σ 198 = .int .i64 (i : Nat) ∧ i ≤ L6.length ∧ h' = h := ⟨_, rfl⟩
  refine wpS_loop I (fun j => L6.length - j) 0 (by rw [hI]; exact ⟨by simp [upd, e0], by simp [upd], by simp [upd], by simp [upd], Nat.zero_le _, rfl⟩) ?_
  clear e0
  intro i σ h' hy
  rw [hI] at hy
  obtain ⟨e0, es, el, ei, hi, hh⟩ := hy
  have hh := hh.symm
  subst hh
  by_cases hlt : i < L6.length
  · obtain ⟨g, hg⟩ : ∃ g, L6[i]? = some g := ⟨L6[i], by simp [hlt]⟩
    obtain ⟨pb, po, ha, -, -, hpz, hpr⟩ := ML6.row i _ (mks_at hg)
    obtain ⟨qb, qo, hb, -, -, hqz, hqr⟩ := AL6.row i _ (mks_at hg)
    subst ha hb
    rw [rep_list] at hpr hqr
    obtain ⟨xv, hpr, ix⟩ := hpr
    obtain ⟨yv, hqr, iy⟩ := hqr
    obtain ⟨xa, xc, rfl, hxl, hxm⟩ := ix.sl
    obtain ⟨ya, yc, rfl, -, -⟩ := iy.sl
    rw [marks_len] at ix hpr hxl
    rw [marks_len] at iy hqr
    simp only [Nat.add_zero] at iy hqr
    simp only [sz_lst, hvs_1, List.cons.injEq, and_true] at hpr hqr hpz hqz
    simp (disch := first | omega | (simp only [e_ssz, e_psz, e_hszs, List.length_cons, List.length_nil]; try omega; done)) only [↓reduceIte, go_sem, owStands_L7, es, el, ei, hlt, hpr]
    obtain ⟨J, hJ⟩ : ∃ J : Nat → Env → H → Prop, J = fun j σ' h2 => σ' 0 = σ 0 ∧ σ' 196 = σ 196 ∧ σ' 197 = σ 197 ∧ σ' 198 = σ 198 ∧ σ' 12 = .int .i64 (i : Nat) ∧ σ' 13 = .slice xa (g.n + 1) xc ∧ σ' 204 = .int .i64 ((g.n : Int) + 1) ∧ σ' 205 = .int .i64 (j : Nat) ∧ j ≤ g.n + 1 ∧ h2 = h := ⟨_, rfl⟩
    refine wpS_loop J (fun j => g.n + 1 - j) 0 (by rw [hJ]; exact ⟨by simp [upd], by simp [upd], by simp [upd], by simp [upd], by simp [upd], by simp [upd], by simp [upd], by simp [upd], Nat.zero_le _, rfl⟩) ?_
    intro j σ' h2 hz
    rw [hJ] at hz
    obtain ⟨f0, fs, fl, fi, fit, flt, fl2, fi2, hj, hh⟩ := hz
    have hh := hh.symm
    subst hh
    rw [e0] at f0
    rw [es] at fs
    rw [el] at fl
    rw [ei] at fi
    by_cases hjn : j < g.n + 1
    · obtain ⟨rb, ro, hc, -, -, hrz, hrr⟩ := ix.row j _ (marks_at hjn)
      subst hc
      obtain ⟨r1, r2⟩ := mk_cell hrr (show 2 < 2 + 1 by decide)
      rw [show Rep.sz (MkE 2 2 false) = 3 from rfl] at r1 hrz
      have fin : ∀ σ2 : Env, σ2 0 = σ' 0 → σ2 196 = σ' 196 → σ2 197 = σ' 197 → σ2 198 = σ' 198 → σ2 12 = σ' 12 → σ2 13 = σ' 13 → σ2 204 = σ' 204 → σ2 205 = .int .i64 ((j : Int) + 1) → ∃ y, J y σ2 h ∧ g.n + 1 - y < g.n + 1 - j := fun σ2 k0 k1 k2 k3 k4 k5 k6 k7 => by
        refine ⟨j + 1, ?_, by omega⟩
        rw [hJ]
        exact ⟨by rw [k0, f0, e0], by rw [k1, fs, es], by rw [k2, fl, el], by rw [k3, fi, ei], by rw [k4, fit], by rw [k5, flt], by rw [k6, fl2], k7, hjn, rfl⟩
      by_cases hjg : j < g.n
      · obtain ⟨tb, to, hd, -, -, htz, htr⟩ := iy.row j _ (marks_at hjg)
        subst hd
        obtain ⟨t1, -⟩ := mk_cell htr (show 2 < 2 + 1 by decide)
        rw [show Rep.sz (MkE 2 2 false) = 3 from rfl] at t1 htz
        simp (disch := first | omega | (simp only [e_ssz, e_psz, e_hszs, List.length_cons, List.length_nil]; try omega; done)) only [↓reduceIte, go_sem, owStands_L8, fit, flt, fl2, fi2, eq_true (show (j : Int) < (g.n : Int) + 1 by omega), hjn, r1]
        refine effS_call ⟨rfl, i, j, rfl, ⟨by simp (disch := first | omega | (simp only [e_ssz, e_psz, e_hszs, List.length_cons, List.length_nil]; try omega; done)) only [↓reduceIte, go_sem, flt, r1], ?_⟩⟩
        simp (disch := first | omega | (simp only [e_ssz, e_psz, e_hszs, List.length_cons, List.length_nil]; try omega; done)) only [↓reduceIte, go_sem, f0, fit, B.at, B.2.1, hqr, hlt, eq_true (show (j : Int) < (g.n : Nat) by omega), t1]
        refine effS_call ⟨rfl, i, j, rfl, ⟨by simp (disch := first | omega | (simp only [e_ssz, e_psz, e_hszs, List.length_cons, List.length_nil]; try omega; done)) only [↓reduceIte, go_sem, f0, B.at, B.2.1, hqr, t1], ?_⟩⟩
        simp (disch := first | omega | (simp only [e_ssz, e_psz, e_hszs, List.length_cons, List.length_nil]; try omega; done)) only [↓reduceIte, go_sem, fi2]
        exact fin _ (by simp [upd]) (by simp [upd]) (by simp [upd]) (by simp [upd]) (by simp [upd]) (by simp [upd]) (by simp [upd]) (by simp [upd])
      · simp (disch := first | omega | (simp only [e_ssz, e_psz, e_hszs, List.length_cons, List.length_nil]; try omega; done)) only [↓reduceIte, go_sem, owStands_L8, fit, flt, fl2, fi2, eq_true (show (j : Int) < (g.n : Int) + 1 by omega), hjn, r1]
        refine effS_call ⟨rfl, i, j, rfl, ⟨by simp (disch := first | omega | (simp only [e_ssz, e_psz, e_hszs, List.length_cons, List.length_nil]; try omega; done)) only [↓reduceIte, go_sem, flt, r1], ?_⟩⟩
        simp (disch := first | omega | (simp only [e_ssz, e_psz, e_hszs, List.length_cons, List.length_nil]; try omega; done)) only [↓reduceIte, go_sem, f0, fit, fi2, B.at, B.2.1, hqr, hlt, eq_false (show ¬ (j : Int) < (g.n : Nat) by omega)]
        exact fin _ (by simp [upd]) (by simp [upd]) (by simp [upd]) (by simp [upd]) (by simp [upd]) (by simp [upd]) (by simp [upd]) (by simp [upd])
    · obtain rfl : j = g.n + 1 := by omega
      simp (disch := first | omega | (simp only [e_ssz, e_psz, e_hszs, List.length_cons, List.length_nil]; try omega; done)) only [↓reduceIte, go_sem, owStands_L8, fi, fl2, fi2, eq_false (show ¬ ((g.n + 1 : Nat) : Int) < (g.n : Int) + 1 by omega)]
      refine ⟨i + 1, ?_, by omega⟩
      rw [hI]
      exact ⟨by simp [upd, f0], by simp [upd, fs], by simp [upd, fl], by simp [upd], hlt, rfl⟩
  obtain rfl : i = L6.length := by omega
  clear hI
  simp (disch := first | omega | (simp only [e_ssz, e_psz, e_hszs, List.length_cons, List.length_nil]; try omega; done)) only [↓reduceIte, go_sem, owStands_L7, e0, el, ei, B.at, B.2.1]
  clear es el ei hi hlt
  -- L8
  obtain ⟨I, hI⟩ : ∃ I : Nat → Env → H → Prop, I = fun i σ h' => σ 0 = .pointer (some ⟨bb, 0, none⟩) ∧ σ 251 = .slice dv8 L8.length gv8 ∧ σ 252 = .int .i64 (L8.length : Nat) ∧ σ 253 = .int .i64 (i : Nat) ∧ i ≤ L8.length ∧ h' = h := ⟨_, rfl⟩
  refine wpS_loop I (fun j => L8.length - j) 0 (by rw [hI]; exact ⟨by simp [upd, e0], by simp [upd], by simp [upd], by simp [upd], Nat.zero_le _, rfl⟩) ?_
  clear e0
  intro i σ h' hy
  rw [hI] at hy
  obtain ⟨e0, es, el, ei, hi, hh⟩ := hy
  have hh := hh.symm
  subst hh
  by_cases hlt : i < L8.length
  · obtain ⟨g, hg⟩ : ∃ g, L8[i]? = some g := ⟨L8[i], by simp [hlt]⟩
    obtain ⟨pb, po, ha, -, -, hpz, hpr⟩ := ML8.row i _ (mks_at hg)
    obtain ⟨qb, qo, hb, -, -, hqz, hqr⟩ := AL8.row i _ (mks_at hg)
    subst ha hb
    rw [rep_list] at hpr hqr
    obtain ⟨xv, hpr, ix⟩ := hpr
    obtain ⟨yv, hqr, iy⟩ := hqr
    obtain ⟨xa, xc, rfl, hxl, hxm⟩ := ix.sl
    obtain ⟨ya, yc, rfl, -, -⟩ := iy.sl
    rw [marks_len] at ix hpr hxl
    rw [marks_len] at iy hqr
    simp only [Nat.add_zero] at iy hqr
    simp only [sz_lst, hvs_1, List.cons.injEq, and_true] at hpr hqr hpz hqz
    simp (disch := first | omega | (simp only [e_ssz, e_psz, e_hszs, List.length_cons, List.length_nil]; try omega; done)) only [↓reduceIte, go_sem, owStands_L9, es, el, ei, hlt, hpr]
    obtain ⟨J, hJ⟩ : ∃ J : Nat → Env → H → Prop, J = fun j σ' h2 => σ' 0 = σ 0 ∧ σ' 251 = σ 251 ∧ σ' 252 = σ 252 ∧ σ' 253 = σ 253 ∧ σ' 15 = .int .i64 (i : Nat) ∧ σ' 16 = .slice xa (g.n + 1) xc ∧ σ' 259 = .int .i64 ((g.n : Int) + 1) ∧ σ' 260 = .int .i64 (j : Nat) ∧ j ≤ g.n + 1 ∧ h2 = h := ⟨_, rfl⟩
    refine wpS_loop J (fun j => g.n + 1 - j) 0 (by rw [hJ]; exact ⟨by simp [upd], by simp [upd], by simp [upd], by simp [upd], by simp [upd], by simp [upd], by simp [upd], by simp [upd], Nat.zero_le _, rfl⟩) ?_
    intro j σ' h2 hz
    rw [hJ] at hz
    obtain ⟨f0, fs, fl, fi, fit, flt, fl2, fi2, hj, hh⟩ := hz
    have hh := hh.symm
    subst hh
    rw [e0] at f0
    rw [es] at fs
    rw [el] at fl
    rw [ei] at fi
    by_cases hjn : j < g.n + 1
    · obtain ⟨rb, ro, hc, -, -, hrz, hrr⟩ := ix.row j _ (marks_at hjn)
      subst hc
      obtain ⟨r1, r2⟩ := mk_cell hrr (show 1 < 2 + 1 by decide)
      rw [show Rep.sz (MkE 2 1 false) = 3 from rfl] at r1 hrz
      have fin : ∀ σ2 : Env, σ2 0 = σ' 0 → σ2 251 = σ' 251 → σ2 252 = σ' 252 → σ2 253 = σ' 253 → σ2 15 = σ' 15 → σ2 16 = σ' 16 → σ2 259 = σ' 259 → σ2 260 = .int .i64 ((j : Int) + 1) → ∃ y, J y σ2 h ∧ g.n + 1 - y < g.n + 1 - j := fun σ2 k0 k1 k2 k3 k4 k5 k6 k7 => by
        refine ⟨j + 1, ?_, by omega⟩
        rw [hJ]
        exact ⟨by rw [k0, f0, e0], by rw [k1, fs, es], by rw [k2, fl, el], by rw [k3, fi, ei], by rw [k4, fit], by rw [k5, flt], by rw [k6, fl2], k7, hjn, rfl⟩
      by_cases hjg : j < g.n
      · obtain ⟨tb, to, hd, -, -, htz, htr⟩ := iy.row j _ (marks_at hjg)
        subst hd
        obtain ⟨t1, -⟩ := mk_cell htr (show 1 < 2 + 1 by decide)
        rw [show Rep.sz (MkE 2 1 false) = 3 from rfl] at t1 htz
        simp (disch := first | omega | (simp only [e_ssz, e_psz, e_hszs, List.length_cons, List.length_nil]; try omega; done)) only [↓reduceIte, go_sem, owStands_L10, fit, flt, fl2, fi2, eq_true (show (j : Int) < (g.n : Int) + 1 by omega), hjn, r1]
        refine effS_call ⟨rfl, i, j, rfl, ⟨by simp (disch := first | omega | (simp only [e_ssz, e_psz, e_hszs, List.length_cons, List.length_nil]; try omega; done)) only [↓reduceIte, go_sem, flt, r1], ?_⟩⟩
        simp (disch := first | omega | (simp only [e_ssz, e_psz, e_hszs, List.length_cons, List.length_nil]; try omega; done)) only [↓reduceIte, go_sem, f0, fit, B.at, B.2.1, hqr, hlt, eq_true (show (j : Int) < (g.n : Nat) by omega), t1]
        refine effS_call ⟨rfl, i, j, rfl, ⟨by simp (disch := first | omega | (simp only [e_ssz, e_psz, e_hszs, List.length_cons, List.length_nil]; try omega; done)) only [↓reduceIte, go_sem, f0, B.at, B.2.1, hqr, t1], ?_⟩⟩
        simp (disch := first | omega | (simp only [e_ssz, e_psz, e_hszs, List.length_cons, List.length_nil]; try omega; done)) only [↓reduceIte, go_sem, fi2]
        exact fin _ (by simp [upd]) (by simp [upd]) (by simp [upd]) (by simp [upd]) (by simp [upd]) (by simp [upd]) (by simp [upd]) (by simp [upd])
      · simp (disch := first | omega | (simp only [e_ssz, e_psz, e_hszs, List.length_cons, List.length_nil]; try omega; done)) only [↓reduceIte, go_sem, owStands_L10, fit, flt, fl2, fi2, eq_true (show (j : Int) < (g.n : Int) + 1 by omega), hjn, r1]
        refine effS_call ⟨rfl, i, j, rfl, ⟨by simp (disch := first | omega | (simp only [e_ssz, e_psz, e_hszs, List.length_cons, List.length_nil]; try omega; done)) only [↓reduceIte, go_sem, flt, r1], ?_⟩⟩
        simp (disch := first | omega | (simp only [e_ssz, e_psz, e_hszs, List.length_cons, List.length_nil]; try omega; done)) only [↓reduceIte, go_sem, f0, fit, fi2, B.at, B.2.1, hqr, hlt, eq_false (show ¬ (j : Int) < (g.n : Nat) by omega)]
        exact fin _ (by simp [upd]) (by simp [upd]) (by simp [upd]) (by simp [upd]) (by simp [upd]) (by simp [upd]) (by simp [upd]) (by simp [upd])
    · obtain rfl : j = g.n + 1 := by omega
      simp (disch := first | omega | (simp only [e_ssz, e_psz, e_hszs, List.length_cons, List.length_nil]; try omega; done)) only [↓reduceIte, go_sem, owStands_L10, fi, fl2, fi2, eq_false (show ¬ ((g.n + 1 : Nat) : Int) < (g.n : Int) + 1 by omega)]
      refine ⟨i + 1, ?_, by omega⟩
      rw [hI]
      exact ⟨by simp [upd, f0], by simp [upd, fs], by simp [upd, fl], by simp [upd], hlt, rfl⟩
  obtain rfl : i = L8.length := by omega
  clear hI
  simp (disch := first | omega | (simp only [e_ssz, e_psz, e_hszs, List.length_cons, List.length_nil]; try omega; done)) only [↓reduceIte, go_sem, owStands_L9, el, ei]
  exact hK
end Go.Proofs.YtlenjlidahnklaaDoor
