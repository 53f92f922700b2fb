/- The law ParseStops. -/
import Derived.Test.YtmnfhmbmifompaaDoorPlQ
import Derived.Test.YtmnfhmbmifompaaDoorPlG
import Derived.Test.YtmnfhmbmifompaaDoorPlU3
namespace Go.Proofs.YtmnfhmbmifompaaDoor
open Go Go.Ev Edict
def goodE (r : Nat) (src : List UInt8) (i : Nat) : Prop := fltF (rdF r) (src ++ 10 :: endL i) = (0, 0) ∨ (22 ≤ (fltF (rdF r) (src ++ 10 :: endL i)).1 ∧ (fltF (rdF r) (src ++ 10 :: endL i)).1 ≤ 24 ∧ (src.length : Int) < (fltF (rdF r) (src ++ 10 :: endL i)).2)
def C_goesOn (vs : List Value) (h : H) (K : Value → H → Prop) : Prop := ∃ (u : U) (r : Nat) (src : List UInt8), vs = [.int .i64 r, str src] ∧ r < 4 ∧ src.length ≤ 60000 ∧ LxG u h ∧ (∃ i, i < 9 ∧ goodE r src i) ∧ ∀ u' h', Step S0 u h u' h' → K (.bool true) h'
def G_goesOn : Ctr := fun f vs h K _ => f = 43 ∧ C_faultOf vs h K
theorem G_goesOn_ok : GOk Tryd.prog G_goesOn := by
  rintro f vs h K KP ⟨rfl, hC⟩; exact plFaultOf_ok hC
theorem plGoesOn_ok {vs : List Value} {h : H} {K : Value → H → Prop} {KP : List PanicEntry → H → Prop} (hC : C_goesOn vs h K) : HCX Tryd.prog 44 vs h K KP := by
  obtain ⟨u, r, src, rfl, hr, hl, hG, ⟨i0, hi9, hgood⟩, hK⟩ := hC
  refine plGoesOn_H G_goesOn G_goesOn_ok _ _ ?_
  simp (disch := first | omega | (simp only [e_ssz, e_psz, e_hszs, List.length_cons, List.length_nil]; try omega; done)) only [go_sem, plGoesOn_S, plGoesOn_E]
  obtain ⟨I, hI⟩ : ∃ I : Nat → Env → H → Prop, I = fun k σ' h' => ∃ u', σ' 0 = .int .i64 (r : Nat) ∧ σ' 1 = str src ∧ σ' 8 = .int .i64 (k : Nat) ∧ k ≤ i0 ∧ Step S0 u h u' h' := ⟨_, rfl⟩
  refine wpS_loop I (fun j => 9 - j) 0 (by rw [hI]; exact ⟨u, by simp [upd], by simp [upd], by simp [upd], by omega, Step.refl _ _ _⟩) ?_
  intro k σ' h' hy
  rw [hI] at hy
  obtain ⟨u', f0, f1, f8, hk, st⟩ := hy
  have hlt : k < 9 := by omega
  have next : ∀ (σ'' : Env) (u5 : U) (h5 : H), σ'' 0 = .int .i64 (r : Nat) → σ'' 1 = str src → σ'' 8 = .int .i64 ((k : Int) + 1) → Step S0 u h u5 h5 → ¬ goodE r src k → ∃ y, I y σ'' h5 ∧ 9 - y < 9 - k := by
    intro σ'' u5 h5 e0 e1 e8 s5 hng
    have hne : k ≠ i0 := fun q => hng (by rw [q]; exact hgood)
    refine ⟨k + 1, ?_, by omega⟩
    rw [hI]
    exact ⟨u5, e0, e1, by rw [e8]; rfl, by omega, s5⟩
  obtain q | q | q | q | q | q | q | q | q : k = 0 ∨ k = 1 ∨ k = 2 ∨ k = 3 ∨ k = 4 ∨ k = 5 ∨ k = 6 ∨ k = 7 ∨ k = 8 := by omega
  · have hend : src ++ [10] ++ [] = src ++ 10 :: endL k := by rw [q]; simp [endL]
    simp (disch := first | omega | (simp only [e_ssz, e_psz, e_hszs, List.length_cons, List.length_nil]; try omega; done)) only [↓reduceIte, go_sem, plGoesOn_L1, f0, f1, f8, eq_true (show (k : Int) < 9 by omega), eq_false (show ¬ ((k : Nat) : Int) = 1 by omega), eq_false (show ¬ ((k : Nat) : Int) = 2 by omega), eq_false (show ¬ ((k : Nat) : Int) = 3 by omega), eq_false (show ¬ ((k : Nat) : Int) = 4 by omega), eq_false (show ¬ ((k : Nat) : Int) = 5 by omega), eq_false (show ¬ ((k : Nat) : Int) = 6 by omega), eq_false (show ¬ ((k : Nat) : Int) = 7 by omega), eq_false (show ¬ ((k : Nat) : Int) = 8 by omega)]
    refine ⟨by omega, by omega, effS_call ⟨rfl, u', r, src ++ [10] ++ [], rfl, hr, by simp; omega, hG.mono st.ge, fun u3 h3 s3 => ⟨by simp (disch := first | omega | (simp only [e_ssz, e_psz, e_hszs, List.length_cons, List.length_nil]; try omega; done)) only [go_sem], ?_⟩⟩⟩
    rw [hend]
    obtain ⟨F, hF⟩ : ∃ F, F = fltF (rdF r) (src ++ 10 :: endL k) := ⟨_, rfl⟩
    have hgd : goodE r src k ↔ (F = (0, 0) ∨ (22 ≤ F.1 ∧ F.1 ≤ 24 ∧ (src.length : Int) < F.2)) := by rw [hF]; rfl
    rw [← hF]
    clear hF
    obtain ⟨g1, g2⟩ := F
    simp only [Prod.mk.injEq] at hgd
    simp only [fltV]
    have s4 := Step.push0 S0 u3 h3 #[.int .i64 g1, .int .i64 0, .int .i64 g2] 27
    have B6 := Blk.new (u := u3) (h := h3) [.int .i64 g1, .int .i64 0, .int .i64 g2] 27
    obtain ⟨h4, hh4⟩ : ∃ h4, h4 = h3.push (.cells #[.int .i64 g1, .int .i64 0, .int .i64 g2] 27) := ⟨_, rfl⟩
    obtain ⟨u4, hu4⟩ : ∃ u4, u4 = ub u3 h3.size 0 := ⟨_, rfl⟩
    have B6' : Blk u4 h4 h3.size [.int .i64 g1, .int .i64 0, .int .i64 g2] := by rw [hu4, hh4]; exact B6
    rw [← hh4, ← hu4] at s4
    clear B6
    have B61 := B6'.1
    have st4 := (st.trans0 s3).trans0 s4
    by_cases ha : g1 = 0
    · by_cases hb : g2 = 0
      · simp (disch := first | omega | (simp only [e_ssz, e_psz, e_hszs, List.length_cons, List.length_nil]; try omega; done)) only [↓reduceIte, go_sem, f1, ← hh4, B6'.at, B6'.2.1, eq_true ha, eq_true hb]
        exact hK _ _ st4
      · simp (disch := first | omega | (simp only [e_ssz, e_psz, e_hszs, List.length_cons, List.length_nil]; try omega; done)) only [↓reduceIte, go_sem, f1, f8, ← hh4, B6'.at, B6'.2.1, eq_true ha, eq_false hb, eq_false (show ¬ 22 ≤ g1 by omega)]
        exact next _ u4 h4 (by simp [upd, f0]) (by simp [upd, f1]) (by simp [upd]) st4 (by rw [hgd]; omega)
    · by_cases hc : 22 ≤ g1
      · by_cases hd : g1 ≤ 24
        · by_cases he : (src.length : Int) < g2
          · simp (disch := first | omega | (simp only [e_ssz, e_psz, e_hszs, List.length_cons, List.length_nil]; try omega; done)) only [↓reduceIte, go_sem, f1, ← hh4, B6'.at, B6'.2.1, eq_false ha, eq_true hc, eq_true hd, eq_true he]
            exact hK _ _ st4
          · simp (disch := first | omega | (simp only [e_ssz, e_psz, e_hszs, List.length_cons, List.length_nil]; try omega; done)) only [↓reduceIte, go_sem, f1, f8, ← hh4, B6'.at, B6'.2.1, eq_false ha, eq_true hc, eq_true hd, eq_false he]
            exact next _ u4 h4 (by simp [upd, f0]) (by simp [upd, f1]) (by simp [upd]) st4 (by rw [hgd]; omega)
        · simp (disch := first | omega | (simp only [e_ssz, e_psz, e_hszs, List.length_cons, List.length_nil]; try omega; done)) only [↓reduceIte, go_sem, f1, f8, ← hh4, B6'.at, B6'.2.1, eq_false ha, eq_true hc, eq_false hd]
          exact next _ u4 h4 (by simp [upd, f0]) (by simp [upd, f1]) (by simp [upd]) st4 (by rw [hgd]; omega)
      · simp (disch := first | omega | (simp only [e_ssz, e_psz, e_hszs, List.length_cons, List.length_nil]; try omega; done)) only [↓reduceIte, go_sem, f1, f8, ← hh4, B6'.at, B6'.2.1, eq_false ha, eq_false hc]
        exact next _ u4 h4 (by simp [upd, f0]) (by simp [upd, f1]) (by simp [upd]) st4 (by rw [hgd]; omega)
  · have hend : src ++ [10] ++ [46] = src ++ 10 :: endL k := by rw [q]; simp [endL]
    simp (disch := first | omega | (simp only [e_ssz, e_psz, e_hszs, List.length_cons, List.length_nil]; try omega; done)) only [↓reduceIte, go_sem, plGoesOn_L1, f0, f1, f8, eq_true (show (k : Int) < 9 by omega), eq_true (show ((k : Nat) : Int) = 1 by omega)]
    refine ⟨by omega, by omega, effS_call ⟨rfl, u', r, src ++ [10] ++ [46], rfl, hr, by simp; omega, hG.mono st.ge, fun u3 h3 s3 => ⟨by simp (disch := first | omega | (simp only [e_ssz, e_psz, e_hszs, List.length_cons, List.length_nil]; try omega; done)) only [go_sem], ?_⟩⟩⟩
    rw [hend]
    obtain ⟨F, hF⟩ : ∃ F, F = fltF (rdF r) (src ++ 10 :: endL k) := ⟨_, rfl⟩
    have hgd : goodE r src k ↔ (F = (0, 0) ∨ (22 ≤ F.1 ∧ F.1 ≤ 24 ∧ (src.length : Int) < F.2)) := by rw [hF]; rfl
    rw [← hF]
    clear hF
    obtain ⟨g1, g2⟩ := F
    simp only [Prod.mk.injEq] at hgd
    simp only [fltV]
    have s4 := Step.push0 S0 u3 h3 #[.int .i64 g1, .int .i64 0, .int .i64 g2] 27
    have B6 := Blk.new (u := u3) (h := h3) [.int .i64 g1, .int .i64 0, .int .i64 g2] 27
    obtain ⟨h4, hh4⟩ : ∃ h4, h4 = h3.push (.cells #[.int .i64 g1, .int .i64 0, .int .i64 g2] 27) := ⟨_, rfl⟩
    obtain ⟨u4, hu4⟩ : ∃ u4, u4 = ub u3 h3.size 0 := ⟨_, rfl⟩
    have B6' : Blk u4 h4 h3.size [.int .i64 g1, .int .i64 0, .int .i64 g2] := by rw [hu4, hh4]; exact B6
    rw [← hh4, ← hu4] at s4
    clear B6
    have B61 := B6'.1
    have st4 := (st.trans0 s3).trans0 s4
    by_cases ha : g1 = 0
    · by_cases hb : g2 = 0
      · simp (disch := first | omega | (simp only [e_ssz, e_psz, e_hszs, List.length_cons, List.length_nil]; try omega; done)) only [↓reduceIte, go_sem, f1, ← hh4, B6'.at, B6'.2.1, eq_true ha, eq_true hb]
        exact hK _ _ st4
      · simp (disch := first | omega | (simp only [e_ssz, e_psz, e_hszs, List.length_cons, List.length_nil]; try omega; done)) only [↓reduceIte, go_sem, f1, f8, ← hh4, B6'.at, B6'.2.1, eq_true ha, eq_false hb, eq_false (show ¬ 22 ≤ g1 by omega)]
        exact next _ u4 h4 (by simp [upd, f0]) (by simp [upd, f1]) (by simp [upd]) st4 (by rw [hgd]; omega)
    · by_cases hc : 22 ≤ g1
      · by_cases hd : g1 ≤ 24
        · by_cases he : (src.length : Int) < g2
          · simp (disch := first | omega | (simp only [e_ssz, e_psz, e_hszs, List.length_cons, List.length_nil]; try omega; done)) only [↓reduceIte, go_sem, f1, ← hh4, B6'.at, B6'.2.1, eq_false ha, eq_true hc, eq_true hd, eq_true he]
            exact hK _ _ st4
          · simp (disch := first | omega | (simp only [e_ssz, e_psz, e_hszs, List.length_cons, List.length_nil]; try omega; done)) only [↓reduceIte, go_sem, f1, f8, ← hh4, B6'.at, B6'.2.1, eq_false ha, eq_true hc, eq_true hd, eq_false he]
            exact next _ u4 h4 (by simp [upd, f0]) (by simp [upd, f1]) (by simp [upd]) st4 (by rw [hgd]; omega)
        · simp (disch := first | omega | (simp only [e_ssz, e_psz, e_hszs, List.length_cons, List.length_nil]; try omega; done)) only [↓reduceIte, go_sem, f1, f8, ← hh4, B6'.at, B6'.2.1, eq_false ha, eq_true hc, eq_false hd]
          exact next _ u4 h4 (by simp [upd, f0]) (by simp [upd, f1]) (by simp [upd]) st4 (by rw [hgd]; omega)
      · simp (disch := first | omega | (simp only [e_ssz, e_psz, e_hszs, List.length_cons, List.length_nil]; try omega; done)) only [↓reduceIte, go_sem, f1, f8, ← hh4, B6'.at, B6'.2.1, eq_false ha, eq_false hc]
        exact next _ u4 h4 (by simp [upd, f0]) (by simp [upd, f1]) (by simp [upd]) st4 (by rw [hgd]; omega)
  · have hend : src ++ [10] ++ [97, 41, 46] = src ++ 10 :: endL k := by rw [q]; simp [endL]
    simp (disch := first | omega | (simp only [e_ssz, e_psz, e_hszs, List.length_cons, List.length_nil]; try omega; done)) only [↓reduceIte, go_sem, plGoesOn_L1, f0, f1, f8, eq_true (show (k : Int) < 9 by omega), eq_false (show ¬ ((k : Nat) : Int) = 1 by omega), eq_true (show ((k : Nat) : Int) = 2 by omega)]
    refine ⟨by omega, by omega, effS_call ⟨rfl, u', r, src ++ [10] ++ [97, 41, 46], rfl, hr, by simp; omega, hG.mono st.ge, fun u3 h3 s3 => ⟨by simp (disch := first | omega | (simp only [e_ssz, e_psz, e_hszs, List.length_cons, List.length_nil]; try omega; done)) only [go_sem], ?_⟩⟩⟩
    rw [hend]
    obtain ⟨F, hF⟩ : ∃ F, F = fltF (rdF r) (src ++ 10 :: endL k) := ⟨_, rfl⟩
    have hgd : goodE r src k ↔ (F = (0, 0) ∨ (22 ≤ F.1 ∧ F.1 ≤ 24 ∧ (src.length : Int) < F.2)) := by rw [hF]; rfl
    rw [← hF]
    clear hF
    obtain ⟨g1, g2⟩ := F
    simp only [Prod.mk.injEq] at hgd
    simp only [fltV]
    have s4 := Step.push0 S0 u3 h3 #[.int .i64 g1, .int .i64 0, .int .i64 g2] 27
    have B6 := Blk.new (u := u3) (h := h3) [.int .i64 g1, .int .i64 0, .int .i64 g2] 27
    obtain ⟨h4, hh4⟩ : ∃ h4, h4 = h3.push (.cells #[.int .i64 g1, .int .i64 0, .int .i64 g2] 27) := ⟨_, rfl⟩
    obtain ⟨u4, hu4⟩ : ∃ u4, u4 = ub u3 h3.size 0 := ⟨_, rfl⟩
    have B6' : Blk u4 h4 h3.size [.int .i64 g1, .int .i64 0, .int .i64 g2] := by rw [hu4, hh4]; exact B6
    rw [← hh4, ← hu4] at s4
    clear B6
    have B61 := B6'.1
    have st4 := (st.trans0 s3).trans0 s4
    by_cases ha : g1 = 0
    · by_cases hb : g2 = 0
      · simp (disch := first | omega | (simp only [e_ssz, e_psz, e_hszs, List.length_cons, List.length_nil]; try omega; done)) only [↓reduceIte, go_sem, f1, ← hh4, B6'.at, B6'.2.1, eq_true ha, eq_true hb]
        exact hK _ _ st4
      · simp (disch := first | omega | (simp only [e_ssz, e_psz, e_hszs, List.length_cons, List.length_nil]; try omega; done)) only [↓reduceIte, go_sem, f1, f8, ← hh4, B6'.at, B6'.2.1, eq_true ha, eq_false hb, eq_false (show ¬ 22 ≤ g1 by omega)]
        exact next _ u4 h4 (by simp [upd, f0]) (by simp [upd, f1]) (by simp [upd]) st4 (by rw [hgd]; omega)
    · by_cases hc : 22 ≤ g1
      · by_cases hd : g1 ≤ 24
        · by_cases he : (src.length : Int) < g2
          · simp (disch := first | omega | (simp only [e_ssz, e_psz, e_hszs, List.length_cons, List.length_nil]; try omega; done)) only [↓reduceIte, go_sem, f1, ← hh4, B6'.at, B6'.2.1, eq_false ha, eq_true hc, eq_true hd, eq_true he]
            exact hK _ _ st4
          · simp (disch := first | omega | (simp only [e_ssz, e_psz, e_hszs, List.length_cons, List.length_nil]; try omega; done)) only [↓reduceIte, go_sem, f1, f8, ← hh4, B6'.at, B6'.2.1, eq_false ha, eq_true hc, eq_true hd, eq_false he]
            exact next _ u4 h4 (by simp [upd, f0]) (by simp [upd, f1]) (by simp [upd]) st4 (by rw [hgd]; omega)
        · simp (disch := first | omega | (simp only [e_ssz, e_psz, e_hszs, List.length_cons, List.length_nil]; try omega; done)) only [↓reduceIte, go_sem, f1, f8, ← hh4, B6'.at, B6'.2.1, eq_false ha, eq_true hc, eq_false hd]
          exact next _ u4 h4 (by simp [upd, f0]) (by simp [upd, f1]) (by simp [upd]) st4 (by rw [hgd]; omega)
      · simp (disch := first | omega | (simp only [e_ssz, e_psz, e_hszs, List.length_cons, List.length_nil]; try omega; done)) only [↓reduceIte, go_sem, f1, f8, ← hh4, B6'.at, B6'.2.1, eq_false ha, eq_false hc]
        exact next _ u4 h4 (by simp [upd, f0]) (by simp [upd, f1]) (by simp [upd]) st4 (by rw [hgd]; omega)
  · have hend : src ++ [10] ++ [41, 46] = src ++ 10 :: endL k := by rw [q]; simp [endL]
    simp (disch := first | omega | (simp only [e_ssz, e_psz, e_hszs, List.length_cons, List.length_nil]; try omega; done)) only [↓reduceIte, go_sem, plGoesOn_L1, f0, f1, f8, eq_true (show (k : Int) < 9 by omega), eq_false (show ¬ ((k : Nat) : Int) = 1 by omega), eq_false (show ¬ ((k : Nat) : Int) = 2 by omega), eq_true (show ((k : Nat) : Int) = 3 by omega)]
    refine ⟨by omega, by omega, effS_call ⟨rfl, u', r, src ++ [10] ++ [41, 46], rfl, hr, by simp; omega, hG.mono st.ge, fun u3 h3 s3 => ⟨by simp (disch := first | omega | (simp only [e_ssz, e_psz, e_hszs, List.length_cons, List.length_nil]; try omega; done)) only [go_sem], ?_⟩⟩⟩
    rw [hend]
    obtain ⟨F, hF⟩ : ∃ F, F = fltF (rdF r) (src ++ 10 :: endL k) := ⟨_, rfl⟩
    have hgd : goodE r src k ↔ (F = (0, 0) ∨ (22 ≤ F.1 ∧ F.1 ≤ 24 ∧ (src.length : Int) < F.2)) := by rw [hF]; rfl
    rw [← hF]
    clear hF
    obtain ⟨g1, g2⟩ := F
    simp only [Prod.mk.injEq] at hgd
    simp only [fltV]
    have s4 := Step.push0 S0 u3 h3 #[.int .i64 g1, .int .i64 0, .int .i64 g2] 27
    have B6 := Blk.new (u := u3) (h := h3) [.int .i64 g1, .int .i64 0, .int .i64 g2] 27
    obtain ⟨h4, hh4⟩ : ∃ h4, h4 = h3.push (.cells #[.int .i64 g1, .int .i64 0, .int .i64 g2] 27) := ⟨_, rfl⟩
    obtain ⟨u4, hu4⟩ : ∃ u4, u4 = ub u3 h3.size 0 := ⟨_, rfl⟩
    have B6' : Blk u4 h4 h3.size [.int .i64 g1, .int .i64 0, .int .i64 g2] := by rw [hu4, hh4]; exact B6
    rw [← hh4, ← hu4] at s4
    clear B6
    have B61 := B6'.1
    have st4 := (st.trans0 s3).trans0 s4
    by_cases ha : g1 = 0
    · by_cases hb : g2 = 0
      · simp (disch := first | omega | (simp only [e_ssz, e_psz, e_hszs, List.length_cons, List.length_nil]; try omega; done)) only [↓reduceIte, go_sem, f1, ← hh4, B6'.at, B6'.2.1, eq_true ha, eq_true hb]
        exact hK _ _ st4
      · simp (disch := first | omega | (simp only [e_ssz, e_psz, e_hszs, List.length_cons, List.length_nil]; try omega; done)) only [↓reduceIte, go_sem, f1, f8, ← hh4, B6'.at, B6'.2.1, eq_true ha, eq_false hb, eq_false (show ¬ 22 ≤ g1 by omega)]
        exact next _ u4 h4 (by simp [upd, f0]) (by simp [upd, f1]) (by simp [upd]) st4 (by rw [hgd]; omega)
    · by_cases hc : 22 ≤ g1
      · by_cases hd : g1 ≤ 24
        · by_cases he : (src.length : Int) < g2
          · simp (disch := first | omega | (simp only [e_ssz, e_psz, e_hszs, List.length_cons, List.length_nil]; try omega; done)) only [↓reduceIte, go_sem, f1, ← hh4, B6'.at, B6'.2.1, eq_false ha, eq_true hc, eq_true hd, eq_true he]
            exact hK _ _ st4
          · simp (disch := first | omega | (simp only [e_ssz, e_psz, e_hszs, List.length_cons, List.length_nil]; try omega; done)) only [↓reduceIte, go_sem, f1, f8, ← hh4, B6'.at, B6'.2.1, eq_false ha, eq_true hc, eq_true hd, eq_false he]
            exact next _ u4 h4 (by simp [upd, f0]) (by simp [upd, f1]) (by simp [upd]) st4 (by rw [hgd]; omega)
        · simp (disch := first | omega | (simp only [e_ssz, e_psz, e_hszs, List.length_cons, List.length_nil]; try omega; done)) only [↓reduceIte, go_sem, f1, f8, ← hh4, B6'.at, B6'.2.1, eq_false ha, eq_true hc, eq_false hd]
          exact next _ u4 h4 (by simp [upd, f0]) (by simp [upd, f1]) (by simp [upd]) st4 (by rw [hgd]; omega)
      · simp (disch := first | omega | (simp only [e_ssz, e_psz, e_hszs, List.length_cons, List.length_nil]; try omega; done)) only [↓reduceIte, go_sem, f1, f8, ← hh4, B6'.at, B6'.2.1, eq_false ha, eq_false hc]
        exact next _ u4 h4 (by simp [upd, f0]) (by simp [upd, f1]) (by simp [upd]) st4 (by rw [hgd]; omega)
  · have hend : src ++ [10] ++ [97, 46] = src ++ 10 :: endL k := by rw [q]; simp [endL]
    simp (disch := first | omega | (simp only [e_ssz, e_psz, e_hszs, List.length_cons, List.length_nil]; try omega; done)) only [↓reduceIte, go_sem, plGoesOn_L1, f0, f1, f8, eq_true (show (k : Int) < 9 by omega), eq_false (show ¬ ((k : Nat) : Int) = 1 by omega), eq_false (show ¬ ((k : Nat) : Int) = 2 by omega), eq_false (show ¬ ((k : Nat) : Int) = 3 by omega), eq_true (show ((k : Nat) : Int) = 4 by omega)]
    refine ⟨by omega, by omega, effS_call ⟨rfl, u', r, src ++ [10] ++ [97, 46], rfl, hr, by simp; omega, hG.mono st.ge, fun u3 h3 s3 => ⟨by simp (disch := first | omega | (simp only [e_ssz, e_psz, e_hszs, List.length_cons, List.length_nil]; try omega; done)) only [go_sem], ?_⟩⟩⟩
    rw [hend]
    obtain ⟨F, hF⟩ : ∃ F, F = fltF (rdF r) (src ++ 10 :: endL k) := ⟨_, rfl⟩
    have hgd : goodE r src k ↔ (F = (0, 0) ∨ (22 ≤ F.1 ∧ F.1 ≤ 24 ∧ (src.length : Int) < F.2)) := by rw [hF]; rfl
    rw [← hF]
    clear hF
    obtain ⟨g1, g2⟩ := F
    simp only [Prod.mk.injEq] at hgd
    simp only [fltV]
    have s4 := Step.push0 S0 u3 h3 #[.int .i64 g1, .int .i64 0, .int .i64 g2] 27
    have B6 := Blk.new (u := u3) (h := h3) [.int .i64 g1, .int .i64 0, .int .i64 g2] 27
    obtain ⟨h4, hh4⟩ : ∃ h4, h4 = h3.push (.cells #[.int .i64 g1, .int .i64 0, .int .i64 g2] 27) := ⟨_, rfl⟩
    obtain ⟨u4, hu4⟩ : ∃ u4, u4 = ub u3 h3.size 0 := ⟨_, rfl⟩
    have B6' : Blk u4 h4 h3.size [.int .i64 g1, .int .i64 0, .int .i64 g2] := by rw [hu4, hh4]; exact B6
    rw [← hh4, ← hu4] at s4
    clear B6
    have B61 := B6'.1
    have st4 := (st.trans0 s3).trans0 s4
    by_cases ha : g1 = 0
    · by_cases hb : g2 = 0
      · simp (disch := first | omega | (simp only [e_ssz, e_psz, e_hszs, List.length_cons, List.length_nil]; try omega; done)) only [↓reduceIte, go_sem, f1, ← hh4, B6'.at, B6'.2.1, eq_true ha, eq_true hb]
        exact hK _ _ st4
      · simp (disch := first | omega | (simp only [e_ssz, e_psz, e_hszs, List.length_cons, List.length_nil]; try omega; done)) only [↓reduceIte, go_sem, f1, f8, ← hh4, B6'.at, B6'.2.1, eq_true ha, eq_false hb, eq_false (show ¬ 22 ≤ g1 by omega)]
        exact next _ u4 h4 (by simp [upd, f0]) (by simp [upd, f1]) (by simp [upd]) st4 (by rw [hgd]; omega)
    · by_cases hc : 22 ≤ g1
      · by_cases hd : g1 ≤ 24
        · by_cases he : (src.length : Int) < g2
          · simp (disch := first | omega | (simp only [e_ssz, e_psz, e_hszs, List.length_cons, List.length_nil]; try omega; done)) only [↓reduceIte, go_sem, f1, ← hh4, B6'.at, B6'.2.1, eq_false ha, eq_true hc, eq_true hd, eq_true he]
            exact hK _ _ st4
          · simp (disch := first | omega | (simp only [e_ssz, e_psz, e_hszs, List.length_cons, List.length_nil]; try omega; done)) only [↓reduceIte, go_sem, f1, f8, ← hh4, B6'.at, B6'.2.1, eq_false ha, eq_true hc, eq_true hd, eq_false he]
            exact next _ u4 h4 (by simp [upd, f0]) (by simp [upd, f1]) (by simp [upd]) st4 (by rw [hgd]; omega)
        · simp (disch := first | omega | (simp only [e_ssz, e_psz, e_hszs, List.length_cons, List.length_nil]; try omega; done)) only [↓reduceIte, go_sem, f1, f8, ← hh4, B6'.at, B6'.2.1, eq_false ha, eq_true hc, eq_false hd]
          exact next _ u4 h4 (by simp [upd, f0]) (by simp [upd, f1]) (by simp [upd]) st4 (by rw [hgd]; omega)
      · simp (disch := first | omega | (simp only [e_ssz, e_psz, e_hszs, List.length_cons, List.length_nil]; try omega; done)) only [↓reduceIte, go_sem, f1, f8, ← hh4, B6'.at, B6'.2.1, eq_false ha, eq_false hc]
        exact next _ u4 h4 (by simp [upd, f0]) (by simp [upd, f1]) (by simp [upd]) st4 (by rw [hgd]; omega)
  · have hend : src ++ [10] ++ [61, 97, 46] = src ++ 10 :: endL k := by rw [q]; simp [endL]
    simp (disch := first | omega | (simp only [e_ssz, e_psz, e_hszs, List.length_cons, List.length_nil]; try omega; done)) only [↓reduceIte, go_sem, plGoesOn_L1, f0, f1, f8, eq_true (show (k : Int) < 9 by omega), eq_false (show ¬ ((k : Nat) : Int) = 1 by omega), eq_false (show ¬ ((k : Nat) : Int) = 2 by omega), eq_false (show ¬ ((k : Nat) : Int) = 3 by omega), eq_false (show ¬ ((k : Nat) : Int) = 4 by omega), eq_true (show ((k : Nat) : Int) = 5 by omega)]
    refine ⟨by omega, by omega, effS_call ⟨rfl, u', r, src ++ [10] ++ [61, 97, 46], rfl, hr, by simp; omega, hG.mono st.ge, fun u3 h3 s3 => ⟨by simp (disch := first | omega | (simp only [e_ssz, e_psz, e_hszs, List.length_cons, List.length_nil]; try omega; done)) only [go_sem], ?_⟩⟩⟩
    rw [hend]
    obtain ⟨F, hF⟩ : ∃ F, F = fltF (rdF r) (src ++ 10 :: endL k) := ⟨_, rfl⟩
    have hgd : goodE r src k ↔ (F = (0, 0) ∨ (22 ≤ F.1 ∧ F.1 ≤ 24 ∧ (src.length : Int) < F.2)) := by rw [hF]; rfl
    rw [← hF]
    clear hF
    obtain ⟨g1, g2⟩ := F
    simp only [Prod.mk.injEq] at hgd
    simp only [fltV]
    have s4 := Step.push0 S0 u3 h3 #[.int .i64 g1, .int .i64 0, .int .i64 g2] 27
    have B6 := Blk.new (u := u3) (h := h3) [.int .i64 g1, .int .i64 0, .int .i64 g2] 27
    obtain ⟨h4, hh4⟩ : ∃ h4, h4 = h3.push (.cells #[.int .i64 g1, .int .i64 0, .int .i64 g2] 27) := ⟨_, rfl⟩
    obtain ⟨u4, hu4⟩ : ∃ u4, u4 = ub u3 h3.size 0 := ⟨_, rfl⟩
    have B6' : Blk u4 h4 h3.size [.int .i64 g1, .int .i64 0, .int .i64 g2] := by rw [hu4, hh4]; exact B6
    rw [← hh4, ← hu4] at s4
    clear B6
    have B61 := B6'.1
    have st4 := (st.trans0 s3).trans0 s4
    by_cases ha : g1 = 0
    · by_cases hb : g2 = 0
      · simp (disch := first | omega | (simp only [e_ssz, e_psz, e_hszs, List.length_cons, List.length_nil]; try omega; done)) only [↓reduceIte, go_sem, f1, ← hh4, B6'.at, B6'.2.1, eq_true ha, eq_true hb]
        exact hK _ _ st4
      · simp (disch := first | omega | (simp only [e_ssz, e_psz, e_hszs, List.length_cons, List.length_nil]; try omega; done)) only [↓reduceIte, go_sem, f1, f8, ← hh4, B6'.at, B6'.2.1, eq_true ha, eq_false hb, eq_false (show ¬ 22 ≤ g1 by omega)]
        exact next _ u4 h4 (by simp [upd, f0]) (by simp [upd, f1]) (by simp [upd]) st4 (by rw [hgd]; omega)
    · by_cases hc : 22 ≤ g1
      · by_cases hd : g1 ≤ 24
        · by_cases he : (src.length : Int) < g2
          · simp (disch := first | omega | (simp only [e_ssz, e_psz, e_hszs, List.length_cons, List.length_nil]; try omega; done)) only [↓reduceIte, go_sem, f1, ← hh4, B6'.at, B6'.2.1, eq_false ha, eq_true hc, eq_true hd, eq_true he]
            exact hK _ _ st4
          · simp (disch := first | omega | (simp only [e_ssz, e_psz, e_hszs, List.length_cons, List.length_nil]; try omega; done)) only [↓reduceIte, go_sem, f1, f8, ← hh4, B6'.at, B6'.2.1, eq_false ha, eq_true hc, eq_true hd, eq_false he]
            exact next _ u4 h4 (by simp [upd, f0]) (by simp [upd, f1]) (by simp [upd]) st4 (by rw [hgd]; omega)
        · simp (disch := first | omega | (simp only [e_ssz, e_psz, e_hszs, List.length_cons, List.length_nil]; try omega; done)) only [↓reduceIte, go_sem, f1, f8, ← hh4, B6'.at, B6'.2.1, eq_false ha, eq_true hc, eq_false hd]
          exact next _ u4 h4 (by simp [upd, f0]) (by simp [upd, f1]) (by simp [upd]) st4 (by rw [hgd]; omega)
      · simp (disch := first | omega | (simp only [e_ssz, e_psz, e_hszs, List.length_cons, List.length_nil]; try omega; done)) only [↓reduceIte, go_sem, f1, f8, ← hh4, B6'.at, B6'.2.1, eq_false ha, eq_false hc]
        exact next _ u4 h4 (by simp [upd, f0]) (by simp [upd, f1]) (by simp [upd]) st4 (by rw [hgd]; omega)
  · have hend : src ++ [10] ++ [97] = src ++ 10 :: endL k := by rw [q]; simp [endL]
    simp (disch := first | omega | (simp only [e_ssz, e_psz, e_hszs, List.length_cons, List.length_nil]; try omega; done)) only [↓reduceIte, go_sem, plGoesOn_L1, f0, f1, f8, eq_true (show (k : Int) < 9 by omega), eq_false (show ¬ ((k : Nat) : Int) = 1 by omega), eq_false (show ¬ ((k : Nat) : Int) = 2 by omega), eq_false (show ¬ ((k : Nat) : Int) = 3 by omega), eq_false (show ¬ ((k : Nat) : Int) = 4 by omega), eq_false (show ¬ ((k : Nat) : Int) = 5 by omega), eq_true (show ((k : Nat) : Int) = 6 by omega)]
    refine ⟨by omega, by omega, effS_call ⟨rfl, u', r, src ++ [10] ++ [97], rfl, hr, by simp; omega, hG.mono st.ge, fun u3 h3 s3 => ⟨by simp (disch := first | omega | (simp only [e_ssz, e_psz, e_hszs, List.length_cons, List.length_nil]; try omega; done)) only [go_sem], ?_⟩⟩⟩
    rw [hend]
    obtain ⟨F, hF⟩ : ∃ F, F = fltF (rdF r) (src ++ 10 :: endL k) := ⟨_, rfl⟩
    have hgd : goodE r src k ↔ (F = (0, 0) ∨ (22 ≤ F.1 ∧ F.1 ≤ 24 ∧ (src.length : Int) < F.2)) := by rw [hF]; rfl
    rw [← hF]
    clear hF
    obtain ⟨g1, g2⟩ := F
    simp only [Prod.mk.injEq] at hgd
    simp only [fltV]
    have s4 := Step.push0 S0 u3 h3 #[.int .i64 g1, .int .i64 0, .int .i64 g2] 27
    have B6 := Blk.new (u := u3) (h := h3) [.int .i64 g1, .int .i64 0, .int .i64 g2] 27
    obtain ⟨h4, hh4⟩ : ∃ h4, h4 = h3.push (.cells #[.int .i64 g1, .int .i64 0, .int .i64 g2] 27) := ⟨_, rfl⟩
    obtain ⟨u4, hu4⟩ : ∃ u4, u4 = ub u3 h3.size 0 := ⟨_, rfl⟩
    have B6' : Blk u4 h4 h3.size [.int .i64 g1, .int .i64 0, .int .i64 g2] := by rw [hu4, hh4]; exact B6
    rw [← hh4, ← hu4] at s4
    clear B6
    have B61 := B6'.1
    have st4 := (st.trans0 s3).trans0 s4
    by_cases ha : g1 = 0
    · by_cases hb : g2 = 0
      · simp (disch := first | omega | (simp only [e_ssz, e_psz, e_hszs, List.length_cons, List.length_nil]; try omega; done)) only [↓reduceIte, go_sem, f1, ← hh4, B6'.at, B6'.2.1, eq_true ha, eq_true hb]
        exact hK _ _ st4
      · simp (disch := first | omega | (simp only [e_ssz, e_psz, e_hszs, List.length_cons, List.length_nil]; try omega; done)) only [↓reduceIte, go_sem, f1, f8, ← hh4, B6'.at, B6'.2.1, eq_true ha, eq_false hb, eq_false (show ¬ 22 ≤ g1 by omega)]
        exact next _ u4 h4 (by simp [upd, f0]) (by simp [upd, f1]) (by simp [upd]) st4 (by rw [hgd]; omega)
    · by_cases hc : 22 ≤ g1
      · by_cases hd : g1 ≤ 24
        · by_cases he : (src.length : Int) < g2
          · simp (disch := first | omega | (simp only [e_ssz, e_psz, e_hszs, List.length_cons, List.length_nil]; try omega; done)) only [↓reduceIte, go_sem, f1, ← hh4, B6'.at, B6'.2.1, eq_false ha, eq_true hc, eq_true hd, eq_true he]
            exact hK _ _ st4
          · simp (disch := first | omega | (simp only [e_ssz, e_psz, e_hszs, List.length_cons, List.length_nil]; try omega; done)) only [↓reduceIte, go_sem, f1, f8, ← hh4, B6'.at, B6'.2.1, eq_false ha, eq_true hc, eq_true hd, eq_false he]
            exact next _ u4 h4 (by simp [upd, f0]) (by simp [upd, f1]) (by simp [upd]) st4 (by rw [hgd]; omega)
        · simp (disch := first | omega | (simp only [e_ssz, e_psz, e_hszs, List.length_cons, List.length_nil]; try omega; done)) only [↓reduceIte, go_sem, f1, f8, ← hh4, B6'.at, B6'.2.1, eq_false ha, eq_true hc, eq_false hd]
          exact next _ u4 h4 (by simp [upd, f0]) (by simp [upd, f1]) (by simp [upd]) st4 (by rw [hgd]; omega)
      · simp (disch := first | omega | (simp only [e_ssz, e_psz, e_hszs, List.length_cons, List.length_nil]; try omega; done)) only [↓reduceIte, go_sem, f1, f8, ← hh4, B6'.at, B6'.2.1, eq_false ha, eq_false hc]
        exact next _ u4 h4 (by simp [upd, f0]) (by simp [upd, f1]) (by simp [upd]) st4 (by rw [hgd]; omega)
  · have hend : src ++ [10] ++ [97, 41] = src ++ 10 :: endL k := by rw [q]; simp [endL]
    simp (disch := first | omega | (simp only [e_ssz, e_psz, e_hszs, List.length_cons, List.length_nil]; try omega; done)) only [↓reduceIte, go_sem, plGoesOn_L1, f0, f1, f8, eq_true (show (k : Int) < 9 by omega), eq_false (show ¬ ((k : Nat) : Int) = 1 by omega), eq_false (show ¬ ((k : Nat) : Int) = 2 by omega), eq_false (show ¬ ((k : Nat) : Int) = 3 by omega), eq_false (show ¬ ((k : Nat) : Int) = 4 by omega), eq_false (show ¬ ((k : Nat) : Int) = 5 by omega), eq_false (show ¬ ((k : Nat) : Int) = 6 by omega), eq_true (show ((k : Nat) : Int) = 7 by omega)]
    refine ⟨by omega, by omega, effS_call ⟨rfl, u', r, src ++ [10] ++ [97, 41], rfl, hr, by simp; omega, hG.mono st.ge, fun u3 h3 s3 => ⟨by simp (disch := first | omega | (simp only [e_ssz, e_psz, e_hszs, List.length_cons, List.length_nil]; try omega; done)) only [go_sem], ?_⟩⟩⟩
    rw [hend]
    obtain ⟨F, hF⟩ : ∃ F, F = fltF (rdF r) (src ++ 10 :: endL k) := ⟨_, rfl⟩
    have hgd : goodE r src k ↔ (F = (0, 0) ∨ (22 ≤ F.1 ∧ F.1 ≤ 24 ∧ (src.length : Int) < F.2)) := by rw [hF]; rfl
    rw [← hF]
    clear hF
    obtain ⟨g1, g2⟩ := F
    simp only [Prod.mk.injEq] at hgd
    simp only [fltV]
    have s4 := Step.push0 S0 u3 h3 #[.int .i64 g1, .int .i64 0, .int .i64 g2] 27
    have B6 := Blk.new (u := u3) (h := h3) [.int .i64 g1, .int .i64 0, .int .i64 g2] 27
    obtain ⟨h4, hh4⟩ : ∃ h4, h4 = h3.push (.cells #[.int .i64 g1, .int .i64 0, .int .i64 g2] 27) := ⟨_, rfl⟩
    obtain ⟨u4, hu4⟩ : ∃ u4, u4 = ub u3 h3.size 0 := ⟨_, rfl⟩
    have B6' : Blk u4 h4 h3.size [.int .i64 g1, .int .i64 0, .int .i64 g2] := by rw [hu4, hh4]; exact B6
    rw [← hh4, ← hu4] at s4
    clear B6
    have B61 := B6'.1
    have st4 := (st.trans0 s3).trans0 s4
    by_cases ha : g1 = 0
    · by_cases hb : g2 = 0
      · simp (disch := first | omega | (simp only [e_ssz, e_psz, e_hszs, List.length_cons, List.length_nil]; try omega; done)) only [↓reduceIte, go_sem, f1, ← hh4, B6'.at, B6'.2.1, eq_true ha, eq_true hb]
        exact hK _ _ st4
      · simp (disch := first | omega | (simp only [e_ssz, e_psz, e_hszs, List.length_cons, List.length_nil]; try omega; done)) only [↓reduceIte, go_sem, f1, f8, ← hh4, B6'.at, B6'.2.1, eq_true ha, eq_false hb, eq_false (show ¬ 22 ≤ g1 by omega)]
        exact next _ u4 h4 (by simp [upd, f0]) (by simp [upd, f1]) (by simp [upd]) st4 (by rw [hgd]; omega)
    · by_cases hc : 22 ≤ g1
      · by_cases hd : g1 ≤ 24
        · by_cases he : (src.length : Int) < g2
          · simp (disch := first | omega | (simp only [e_ssz, e_psz, e_hszs, List.length_cons, List.length_nil]; try omega; done)) only [↓reduceIte, go_sem, f1, ← hh4, B6'.at, B6'.2.1, eq_false ha, eq_true hc, eq_true hd, eq_true he]
            exact hK _ _ st4
          · simp (disch := first | omega | (simp only [e_ssz, e_psz, e_hszs, List.length_cons, List.length_nil]; try omega; done)) only [↓reduceIte, go_sem, f1, f8, ← hh4, B6'.at, B6'.2.1, eq_false ha, eq_true hc, eq_true hd, eq_false he]
            exact next _ u4 h4 (by simp [upd, f0]) (by simp [upd, f1]) (by simp [upd]) st4 (by rw [hgd]; omega)
        · simp (disch := first | omega | (simp only [e_ssz, e_psz, e_hszs, List.length_cons, List.length_nil]; try omega; done)) only [↓reduceIte, go_sem, f1, f8, ← hh4, B6'.at, B6'.2.1, eq_false ha, eq_true hc, eq_false hd]
          exact next _ u4 h4 (by simp [upd, f0]) (by simp [upd, f1]) (by simp [upd]) st4 (by rw [hgd]; omega)
      · simp (disch := first | omega | (simp only [e_ssz, e_psz, e_hszs, List.length_cons, List.length_nil]; try omega; done)) only [↓reduceIte, go_sem, f1, f8, ← hh4, B6'.at, B6'.2.1, eq_false ha, eq_false hc]
        exact next _ u4 h4 (by simp [upd, f0]) (by simp [upd, f1]) (by simp [upd]) st4 (by rw [hgd]; omega)
  · have hend : src ++ [10] ++ [41] = src ++ 10 :: endL k := by rw [q]; simp [endL]
    simp (disch := first | omega | (simp only [e_ssz, e_psz, e_hszs, List.length_cons, List.length_nil]; try omega; done)) only [↓reduceIte, go_sem, plGoesOn_L1, f0, f1, f8, eq_true (show (k : Int) < 9 by omega), eq_false (show ¬ ((k : Nat) : Int) = 1 by omega), eq_false (show ¬ ((k : Nat) : Int) = 2 by omega), eq_false (show ¬ ((k : Nat) : Int) = 3 by omega), eq_false (show ¬ ((k : Nat) : Int) = 4 by omega), eq_false (show ¬ ((k : Nat) : Int) = 5 by omega), eq_false (show ¬ ((k : Nat) : Int) = 6 by omega), eq_false (show ¬ ((k : Nat) : Int) = 7 by omega), eq_true (show ((k : Nat) : Int) = 8 by omega)]
    refine ⟨by omega, by omega, effS_call ⟨rfl, u', r, src ++ [10] ++ [41], rfl, hr, by simp; omega, hG.mono st.ge, fun u3 h3 s3 => ⟨by simp (disch := first | omega | (simp only [e_ssz, e_psz, e_hszs, List.length_cons, List.length_nil]; try omega; done)) only [go_sem], ?_⟩⟩⟩
    rw [hend]
    obtain ⟨F, hF⟩ : ∃ F, F = fltF (rdF r) (src ++ 10 :: endL k) := ⟨_, rfl⟩
    have hgd : goodE r src k ↔ (F = (0, 0) ∨ (22 ≤ F.1 ∧ F.1 ≤ 24 ∧ (src.length : Int) < F.2)) := by rw [hF]; rfl
    rw [← hF]
    clear hF
    obtain ⟨g1, g2⟩ := F
    simp only [Prod.mk.injEq] at hgd
    simp only [fltV]
    have s4 := Step.push0 S0 u3 h3 #[.int .i64 g1, .int .i64 0, .int .i64 g2] 27
    have B6 := Blk.new (u := u3) (h := h3) [.int .i64 g1, .int .i64 0, .int .i64 g2] 27
    obtain ⟨h4, hh4⟩ : ∃ h4, h4 = h3.push (.cells #[.int .i64 g1, .int .i64 0, .int .i64 g2] 27) := ⟨_, rfl⟩
    obtain ⟨u4, hu4⟩ : ∃ u4, u4 = ub u3 h3.size 0 := ⟨_, rfl⟩
    have B6' : Blk u4 h4 h3.size [.int .i64 g1, .int .i64 0, .int .i64 g2] := by rw [hu4, hh4]; exact B6
    rw [← hh4, ← hu4] at s4
    clear B6
    have B61 := B6'.1
    have st4 := (st.trans0 s3).trans0 s4
    by_cases ha : g1 = 0
    · by_cases hb : g2 = 0
      · simp (disch := first | omega | (simp only [e_ssz, e_psz, e_hszs, List.length_cons, List.length_nil]; try omega; done)) only [↓reduceIte, go_sem, f1, ← hh4, B6'.at, B6'.2.1, eq_true ha, eq_true hb]
        exact hK _ _ st4
      · simp (disch := first | omega | (simp only [e_ssz, e_psz, e_hszs, List.length_cons, List.length_nil]; try omega; done)) only [↓reduceIte, go_sem, f1, f8, ← hh4, B6'.at, B6'.2.1, eq_true ha, eq_false hb, eq_false (show ¬ 22 ≤ g1 by omega)]
        exact next _ u4 h4 (by simp [upd, f0]) (by simp [upd, f1]) (by simp [upd]) st4 (by rw [hgd]; omega)
    · by_cases hc : 22 ≤ g1
      · by_cases hd : g1 ≤ 24
        · by_cases he : (src.length : Int) < g2
          · simp (disch := first | omega | (simp only [e_ssz, e_psz, e_hszs, List.length_cons, List.length_nil]; try omega; done)) only [↓reduceIte, go_sem, f1, ← hh4, B6'.at, B6'.2.1, eq_false ha, eq_true hc, eq_true hd, eq_true he]
            exact hK _ _ st4
          · simp (disch := first | omega | (simp only [e_ssz, e_psz, e_hszs, List.length_cons, List.length_nil]; try omega; done)) only [↓reduceIte, go_sem, f1, f8, ← hh4, B6'.at, B6'.2.1, eq_false ha, eq_true hc, eq_true hd, eq_false he]
            exact next _ u4 h4 (by simp [upd, f0]) (by simp [upd, f1]) (by simp [upd]) st4 (by rw [hgd]; omega)
        · simp (disch := first | omega | (simp only [e_ssz, e_psz, e_hszs, List.length_cons, List.length_nil]; try omega; done)) only [↓reduceIte, go_sem, f1, f8, ← hh4, B6'.at, B6'.2.1, eq_false ha, eq_true hc, eq_false hd]
          exact next _ u4 h4 (by simp [upd, f0]) (by simp [upd, f1]) (by simp [upd]) st4 (by rw [hgd]; omega)
      · simp (disch := first | omega | (simp only [e_ssz, e_psz, e_hszs, List.length_cons, List.length_nil]; try omega; done)) only [↓reduceIte, go_sem, f1, f8, ← hh4, B6'.at, B6'.2.1, eq_false ha, eq_false hc]
        exact next _ u4 h4 (by simp [upd, f0]) (by simp [upd, f1]) (by simp [upd]) st4 (by rw [hgd]; omega)
def G_StpL : Ctr := fun f vs h K _ => (f = 43 ∧ C_faultOf vs h K) ∨ (f = 44 ∧ C_goesOn vs h K) ∨ (f = 29 ∧ C_taken vs h K)
theorem G_StpL_ok : GOk Tryd.prog G_StpL := by
  rintro f vs h K KP (⟨rfl, hC⟩ | ⟨rfl, hC⟩ | ⟨rfl, hC⟩)
  · exact plFaultOf_ok hC
  · exact plGoesOn_ok hC
  · exact plTaken_ok hC
theorem ParseStops_ok {vs : List Value} {h : H} {K : Value → H → Prop} {KP : List PanicEntry → H → Prop} (hC : C_law1 vs h K) : HCX Tryd.prog 14 vs h K KP := by
  obtain ⟨u, src, rfl, hl, hG, hK⟩ := hC
  refine ParseStops_H G_StpL G_StpL_ok _ ?_
  by_cases h6 : 60000 < src.length
  · simp (disch := first | omega | (simp only [e_ssz, e_psz, e_hszs, List.length_cons, List.length_nil]; try omega; done)) only [↓reduceIte, go_sem, ParseStops_S, ParseStops_E, eq_true (show (60000 : Int) < (src.length : Nat) by omega)]
    exact hK _ _ (Step.refl _ _ _)
  simp (disch := first | omega | (simp only [e_ssz, e_psz, e_hszs, List.length_cons, List.length_nil]; try omega; done)) only [↓reduceIte, go_sem, ParseStops_S, ParseStops_E, eq_false (show ¬ (60000 : Int) < (src.length : Nat) by omega)]
  obtain ⟨I, hI⟩ : ∃ I : Nat → Env → H → Prop, I = fun k σ' h' => ∃ u', σ' 0 = str src ∧ σ' 8 = .int .i64 (k : Nat) ∧ k ≤ 4 ∧ Step S0 u h u' h' := ⟨_, rfl⟩
  refine wpS_loop I (fun j => 4 - j) 0 (by rw [hI]; exact ⟨u, by simp [upd], by simp [upd], by omega, Step.refl _ _ _⟩) ?_
  intro k σ' h' hy
  rw [hI] at hy
  obtain ⟨u', f0, f8, hk, st⟩ := hy
  by_cases hlt : k < 4
  case neg =>
    simp (disch := first | omega | (simp only [e_ssz, e_psz, e_hszs, List.length_cons, List.length_nil]; try omega; done)) only [↓reduceIte, go_sem, ParseStops_L1, f8, eq_false (show ¬ (k : Int) < 4 by omega)]
    refine effS_call (.inr (.inr ⟨rfl, u', rfl, hG.mono st.ge, fun u9 h9 s9 => ⟨by simp (disch := first | omega | (simp only [e_ssz, e_psz, e_hszs, List.length_cons, List.length_nil]; try omega; done)) only [go_sem], ?_⟩⟩))
    simp (disch := first | omega | (simp only [e_ssz, e_psz, e_hszs, List.length_cons, List.length_nil]; try omega; done)) only [↓reduceIte, go_sem]
    exact hK _ _ (st.trans0 s9)
  simp (disch := first | omega | (simp only [e_ssz, e_psz, e_hszs, List.length_cons, List.length_nil]; try omega; done)) only [↓reduceIte, go_sem, ParseStops_L1, f0, f8, eq_true (show (k : Int) < 4 by omega)]
  refine effS_call (.inl ⟨rfl, u', k, src, rfl, hlt, hl, hG.mono st.ge, fun u3 h3 s3 => ⟨by simp (disch := first | omega | (simp only [e_ssz, e_psz, e_hszs, List.length_cons, List.length_nil]; try omega; done)) only [go_sem], ?_⟩⟩)
  have hF := @flt_stops k src (by omega)
  obtain ⟨F, hFe⟩ : ∃ F, F = fltF (rdF k) src := ⟨_, rfl⟩
  rw [← hFe] at hF ⊢
  clear hFe
  obtain ⟨g1, g2⟩ := F
  simp only at hF
  simp only [fltV]
  have s4 := Step.push0 S0 u3 h3 #[.int .i64 g1, .int .i64 0, .int .i64 g2] 27
  have B6 := Blk.new (u := u3) (h := h3) [.int .i64 g1, .int .i64 0, .int .i64 g2] 27
  obtain ⟨h4, hh4⟩ : ∃ h4, h4 = h3.push (.cells #[.int .i64 g1, .int .i64 0, .int .i64 g2] 27) := ⟨_, rfl⟩
  obtain ⟨u4, hu4⟩ : ∃ u4, u4 = ub u3 h3.size 0 := ⟨_, rfl⟩
  have B6' : Blk u4 h4 h3.size [.int .i64 g1, .int .i64 0, .int .i64 g2] := by rw [hu4, hh4]; exact B6
  rw [← hh4, ← hu4] at s4
  clear B6
  have B61 := B6'.1
  have st4 := (st.trans0 s3).trans0 s4
  have next : ∀ (σ'' : Env) (u5 : U) (h5 : H), σ'' 0 = str src → σ'' 8 = .int .i64 ((k : Int) + 1) → Step S0 u h u5 h5 → ∃ y, I y σ'' h5 ∧ 4 - y < 4 - k := by
    intro σ'' u5 h5 e0 e8 s5
    refine ⟨k + 1, ?_, by omega⟩
    rw [hI]
    exact ⟨u5, e0, by rw [e8]; rfl, hlt, s5⟩
  by_cases h20 : g1 = 20
  · obtain ⟨m, m1, m2, m3, i, hi, hgood⟩ := hF (.inl h20)
    subst m1
    have htk : (src.take m).length = m := by rw [List.length_take]; omega
    simp (disch := first | omega | (simp only [e_ssz, e_psz, e_hszs, List.length_cons, List.length_nil]; try omega; done)) only [↓reduceIte, go_sem, f0, ← hh4, B6'.at, B6'.2.1, eq_true h20, eq_false (show ¬ (m : Int) < 0 by omega), eq_false (show ¬ (src.length : Int) < (m : Nat) by omega), eq_false (show ¬ g1 = 21 by omega)]
    refine ⟨by omega, effS_call (.inr (.inl ⟨rfl, u4, k, src.take m, rfl, hlt, by omega, hG.mono st4.ge, ⟨i, hi, by unfold goodE; rw [htk]; exact hgood⟩, fun u5 h5 s5 => ⟨by simp (disch := first | omega | (simp only [e_ssz, e_psz, e_hszs, List.length_cons, List.length_nil]; try omega; done)) only [go_sem], ?_⟩⟩))⟩
    simp (disch := first | omega | (simp only [e_ssz, e_psz, e_hszs, List.length_cons, List.length_nil]; try omega; done)) only [↓reduceIte, go_sem, f8]
    exact next _ u5 h5 (by simp [upd, f0]) (by simp [upd]) (st4.trans0 s5)
  · by_cases h21 : g1 = 21
    · obtain ⟨m, m1, m2, m3, i, hi, hgood⟩ := hF (.inr h21)
      subst m1
      have m3' := m3 h21
      have htk : (src.take m).length = m := by rw [List.length_take]; omega
      simp (disch := first | omega | (simp only [e_ssz, e_psz, e_hszs, List.length_cons, List.length_nil]; try omega; done)) only [↓reduceIte, go_sem, f0, ← hh4, B6'.at, B6'.2.1, eq_false h20, eq_false (show ¬ (m : Int) < 0 by omega), eq_false (show ¬ (src.length : Int) < (m : Nat) by omega), eq_true h21, eq_true (show (m : Int) = (src.length : Nat) by omega)]
      refine ⟨by omega, effS_call (.inr (.inl ⟨rfl, u4, k, src.take m, rfl, hlt, by omega, hG.mono st4.ge, ⟨i, hi, by unfold goodE; rw [htk]; exact hgood⟩, fun u5 h5 s5 => ⟨by simp (disch := first | omega | (simp only [e_ssz, e_psz, e_hszs, List.length_cons, List.length_nil]; try omega; done)) only [go_sem], ?_⟩⟩))⟩
      simp (disch := first | omega | (simp only [e_ssz, e_psz, e_hszs, List.length_cons, List.length_nil]; try omega; done)) only [↓reduceIte, go_sem, f8]
      exact next _ u5 h5 (by simp [upd, f0]) (by simp [upd]) (st4.trans0 s5)
    · simp (disch := first | omega | (simp only [e_ssz, e_psz, e_hszs, List.length_cons, List.length_nil]; try omega; done)) only [↓reduceIte, go_sem, f8, ← hh4, B6'.at, B6'.2.1, eq_false h20, eq_false h21]
      exact next _ u4 h4 (by simp [upd, f0]) (by simp [upd]) st4
theorem ParseStops_hc {s : List UInt8} {h : H} (hl : s.length ≤ 9223372036854775807) (hG : LxG (hsz h) h) : HCX Tryd.prog 14 [str s] h (fun v h' => v = .bool true ∧ Ext0 h h') fun _ _ => False :=
  ParseStops_ok ⟨hsz h, s, rfl, hl, hG, fun u' h' st => ⟨rfl, st.ext⟩⟩
end Go.Proofs.YtmnfhmbmifompaaDoor
