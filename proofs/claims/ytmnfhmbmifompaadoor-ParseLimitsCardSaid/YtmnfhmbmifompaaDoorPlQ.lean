/- The four readers' faults: faultOf, walked. -/
import Derived.Test.YtmnfhmbmifompaaDoorPqC
import Derived.Test.YtmnfhmbmifompaaDoorPsPg
import Derived.Test.YtmnfhmbmifompaaDoorPsFs
import Derived.Test.YtmnfhmbmifompaaDoorPsQy
import Derived.Test.YtmnfhmbmifompaaDoorPlU
namespace Go.Proofs.YtmnfhmbmifompaaDoor
open Go Go.Ev Edict
def C_pFlt (f : Int) (w : Value → Prop) (vs : List Value) (h : H) (K : Value → H → Prop) : Prop := ∃ (u : U) (src : List UInt8), vs = [str src] ∧ src.length ≤ 9223372036854775807 ∧ LxG u h ∧ ∀ u' h' v, w v → Step S0 u h u' h' → K (.tuple #[v, fltV (fltF f src)]) h'
theorem psProgF_ok {vs : List Value} {h : H} {K : Value → H → Prop} {KP : List PanicEntry → H → Prop} (hC : C_pFlt 0 (fun v => ∃ w, v = .agg #[w]) vs h K) : HCX Tryd.prog 28 vs h K KP := by
  obtain ⟨u, src, rfl, hl, hG, hK⟩ := hC
  refine psProgram_ok ⟨u, src, rfl, hl, hG, fun e he u' h' s => ?_, fun a ha u' h' w s o => ?_⟩
  · rw [prog_flt.1 e he] at hK; exact hK u' h' _ ⟨_, rfl⟩ s
  · rw [prog_flt.2 a ha] at hK; exact hK u' h' _ ⟨_, rfl⟩ s
theorem psFacsF_ok {vs : List Value} {h : H} {K : Value → H → Prop} {KP : List PanicEntry → H → Prop} (hC : C_pFlt 15 (fun _ => True) vs h K) : HCX Tryd.prog 22 vs h K KP := by
  obtain ⟨u, src, rfl, hl, hG, hK⟩ := hC
  refine psFacts_ok ⟨u, src, rfl, hl, hG, fun e he u' h' s => ?_, fun a ha u' h' w s o => ?_⟩
  · rw [facts_flt.1 e he] at hK; exact hK u' h' _ trivial s
  · rw [facts_flt.2 a ha] at hK; exact hK u' h' _ trivial s
theorem psQryF_ok {vs : List Value} {h : H} {K : Value → H → Prop} {KP : List PanicEntry → H → Prop} (hC : C_pFlt 5 (fun _ => True) vs h K) : HCX Tryd.prog 36 vs h K KP := by
  obtain ⟨u, src, rfl, hl, hG, hK⟩ := hC
  refine psQuery_ok ⟨u, src, rfl, hl, hG, fun e he u' h' s => ?_, fun a ha u' h' w s o => ?_⟩
  · rw [query_flt.1 e he] at hK; exact hK u' h' _ trivial s
  · rw [query_flt.2 a ha] at hK; exact hK u' h' _ trivial s
theorem psFactF_ok {vs : List Value} {h : H} {K : Value → H → Prop} {KP : List PanicEntry → H → Prop} (hC : C_pFlt 20 (fun _ => True) vs h K) : HCX Tryd.prog 19 vs h K KP := by
  obtain ⟨u, src, rfl, hl, hG, hK⟩ := hC
  refine psFact_ok ⟨u, src, rfl, hl, hG, fun e he u' h' s => ?_, fun a ha u' h' w s o => ?_⟩
  · rw [one_flt.1 e he] at hK; exact hK u' h' _ trivial s
  · rw [one_flt.2 a ha] at hK; exact hK u' h' _ trivial s
/-- What faultOf answers: reader r's fault. -/
def C_faultOf (vs : List Value) (h : H) (K : Value → H → Prop) : Prop := ∃ (u : U) (r : Nat) (src : List UInt8), vs = [.int .i64 r, str src] ∧ r < 4 ∧ src.length ≤ 9223372036854775807 ∧ LxG u h ∧ ∀ u' h', Step S0 u h u' h' → K (fltV (fltF (rdF r) src)) h'
def G_faultOf : Ctr := fun f vs h K _ => (f = 28 ∧ C_pFlt 0 (fun v => ∃ w, v = .agg #[w]) vs h K) ∨ (f = 22 ∧ C_pFlt 15 (fun _ => True) vs h K) ∨ (f = 36 ∧ C_pFlt 5 (fun _ => True) vs h K) ∨ (f = 19 ∧ C_pFlt 20 (fun _ => True) vs h K)
theorem G_faultOf_ok : GOk Tryd.prog G_faultOf := by
  rintro f vs h K KP (⟨rfl, hC⟩ | ⟨rfl, hC⟩ | ⟨rfl, hC⟩ | ⟨rfl, hC⟩)
  · exact psProgF_ok hC
  · exact psFacsF_ok hC
  · exact psQryF_ok hC
  · exact psFactF_ok hC
theorem plFaultOf_ok {vs : List Value} {h : H} {K : Value → H → Prop} {KP : List PanicEntry → H → Prop} (hC : C_faultOf vs h K) : HCX Tryd.prog 43 vs h K KP := by
  obtain ⟨u, r, src, rfl, hr, hl, hG, hK⟩ := hC
  refine plFaultOf_H G_faultOf G_faultOf_ok _ _ ?_
  have s1 := Step.push0 S0 u h #[.int .i64 0, .int .i64 0, .int .i64 0] 27
  have B1 := Blk.new (u := u) (h := h) [.int .i64 0, .int .i64 0, .int .i64 0] 27
  obtain ⟨h1, hh1⟩ : ∃ h1, h1 = h.push (.cells #[.int .i64 0, .int .i64 0, .int .i64 0] 27) := ⟨_, rfl⟩
  obtain ⟨u1, hu1⟩ : ∃ u1, u1 = ub u h.size 0 := ⟨_, rfl⟩
  have B1' : Blk u1 h1 h.size [.int .i64 0, .int .i64 0, .int .i64 0] := by rw [hu1, hh1]; exact B1
  rw [← hh1, ← hu1] at s1
  clear B1
  have z1 : h1.size = h.size + 1 := by rw [hh1]; simp
  obtain ⟨h3, h4, u4, hh3, hh4, B3, B4, s4, hz4⟩ := boxed u1 h1 [.int .i64 0, .int .i64 0, .int .i64 0] [.int .i64 0, .int .i64 0, .int .i64 0] 27 rfl
  have B14 := B1'.step0 s4
  have st4 := s1.trans0 s4
  have B31 := B3.1
  have fin : ∀ (u5 : U) (h5 : H) (F : Flt), Step S0 u4 h4 u5 h5 → (∀ u' h', Step S0 u h u' h' → K (.agg #[.int .i64 F.1, .int .i64 0, .int .i64 F.2]) h') →
      ∃ (h6 h7 : H), h6 = hsets h5 h1.size 0 [.int .i64 F.1, .int .i64 0, .int .i64 F.2] ∧ h7 = hsets h6 h.size 0 [.int .i64 F.1, .int .i64 0, .int .i64 F.2] ∧ ∃ u5', Blk u5' h5 h1.size [.int .i64 0, .int .i64 0, .int .i64 0] ∧ Blk u5' h6 h1.size [.int .i64 F.1, .int .i64 0, .int .i64 F.2] ∧ Blk u5' h6 h.size [.int .i64 0, .int .i64 0, .int .i64 0] ∧ Blk u5' h7 h.size [.int .i64 F.1, .int .i64 0, .int .i64 F.2] ∧ K (.agg #[.int .i64 F.1, .int .i64 0, .int .i64 F.2]) h7 := by
    intro u5 h5 F s5 hK
    have D4 := B4.step0 s5
    have D1 := B14.step0 s5
    have W := D4.sets (l := [.int .i64 F.1, .int .i64 0, .int .i64 F.2]) rfl
    have s6 := Step.sets (S := fun b => b = h1.size) u5 h5 (b := h1.size) (o := 0) [.int .i64 F.1, .int .i64 0, .int .i64 F.2] rfl (by rw [D4.2.2.2.1]; exact Nat.zero_le _) (by rw [D4.2.1]; exact Nat.le_refl _)
    have E1 := D1.step s6 (by omega)
    have X := E1.sets (l := [.int .i64 F.1, .int .i64 0, .int .i64 F.2]) rfl
    have s7 := Step.sets (S := fun b => b = h.size) u5 (hsets h5 h1.size 0 [.int .i64 F.1, .int .i64 0, .int .i64 F.2]) (b := h.size) (o := 0) [.int .i64 F.1, .int .i64 0, .int .i64 F.2] rfl (by rw [E1.2.2.2.1]; exact Nat.zero_le _) (by rw [E1.2.1]; exact Nat.le_refl _)
    exact ⟨_, _, rfl, rfl, u5, D4, W, E1, X, hK _ _ (((st4.trans0 s5).trans s6 (fun b hb q => by omega)).trans s7 (fun b hb q => by omega))⟩
  obtain ⟨F, hF⟩ : ∃ F, F = fltF (rdF r) src := ⟨_, rfl⟩
  rw [← hF] at hK
  simp only [fltV] at hK
  obtain q | q | q | q : r = 0 ∨ r = 1 ∨ r = 2 ∨ r = 3 := by omega
  · have hF' : fltF 0 src = F := by rw [hF, q]; rfl
    simp (disch := first | omega | (simp only [e_ssz, e_psz, e_hszs, List.length_cons, List.length_nil]; try omega; done)) only [↓reduceIte, go_sem, plFaultOf_S, plFaultOf_E, ← hh1, ← hh3, ← hh4, B3.2.1, B3.2.2.1, eq_true (show ((r : Nat) : Int) = 0 by omega)]
    refine effS_call (.inl ⟨rfl, u4, src, rfl, hl, hG.mono st4.ge, fun u5 h5 v hv s5 => ⟨by simp (disch := first | omega | (simp only [e_ssz, e_psz, e_hszs, List.length_cons, List.length_nil]; try omega; done)) only [go_sem], ?_⟩⟩)
    obtain ⟨w, rfl⟩ := hv
    rw [hF']
    obtain ⟨h6, h7, hh6, hh7, u6, D4, W, E1, X, hKf⟩ := fin u5 h5 F s5 hK
    have D41 := D4.1
    have W1 := W.1
    have E11 := E1.1
    have X1 := X.1
    simp only [fltV]
    simp (disch := first | omega | (simp only [e_ssz, e_psz, e_hszs, List.length_cons, List.length_nil]; try omega; done)) only [↓reduceIte, go_sem, D4.2.1, D4.2.2.1, ← hh6, W.at, W.2.1, E1.2.1, E1.2.2.1, ← hh7, X.at, X.2.1]
    exact hKf
  · have hF' : fltF 15 src = F := by rw [hF, q]; rfl
    simp (disch := first | omega | (simp only [e_ssz, e_psz, e_hszs, List.length_cons, List.length_nil]; try omega; done)) only [↓reduceIte, go_sem, plFaultOf_S, plFaultOf_E, ← hh1, ← hh3, ← hh4, B3.2.1, B3.2.2.1, eq_false (show ¬ ((r : Nat) : Int) = 0 by omega), eq_true (show ((r : Nat) : Int) = 1 by omega)]
    refine effS_call (.inr (.inl ⟨rfl, u4, src, rfl, hl, hG.mono st4.ge, fun u5 h5 v hv s5 => ⟨by simp (disch := first | omega | (simp only [e_ssz, e_psz, e_hszs, List.length_cons, List.length_nil]; try omega; done)) only [go_sem], ?_⟩⟩))
    rw [hF']
    obtain ⟨h6, h7, hh6, hh7, u6, D4, W, E1, X, hKf⟩ := fin u5 h5 F s5 hK
    have D41 := D4.1
    have W1 := W.1
    have E11 := E1.1
    have X1 := X.1
    simp only [fltV]
    simp (disch := first | omega | (simp only [e_ssz, e_psz, e_hszs, List.length_cons, List.length_nil]; try omega; done)) only [↓reduceIte, go_sem, D4.2.1, D4.2.2.1, ← hh6, W.at, W.2.1, E1.2.1, E1.2.2.1, ← hh7, X.at, X.2.1]
    exact hKf
  · have hF' : fltF 5 src = F := by rw [hF, q]; rfl
    simp (disch := first | omega | (simp only [e_ssz, e_psz, e_hszs, List.length_cons, List.length_nil]; try omega; done)) only [↓reduceIte, go_sem, plFaultOf_S, plFaultOf_E, ← hh1, ← hh3, ← hh4, B3.2.1, B3.2.2.1, eq_false (show ¬ ((r : Nat) : Int) = 0 by omega), eq_false (show ¬ ((r : Nat) : Int) = 1 by omega), eq_true (show ((r : Nat) : Int) = 2 by omega)]
    refine effS_call (.inr (.inr (.inl ⟨rfl, u4, src, rfl, hl, hG.mono st4.ge, fun u5 h5 v hv s5 => ⟨by simp (disch := first | omega | (simp only [e_ssz, e_psz, e_hszs, List.length_cons, List.length_nil]; try omega; done)) only [go_sem], ?_⟩⟩)))
    rw [hF']
    obtain ⟨h6, h7, hh6, hh7, u6, D4, W, E1, X, hKf⟩ := fin u5 h5 F s5 hK
    have D41 := D4.1
    have W1 := W.1
    have E11 := E1.1
    have X1 := X.1
    simp only [fltV]
    simp (disch := first | omega | (simp only [e_ssz, e_psz, e_hszs, List.length_cons, List.length_nil]; try omega; done)) only [↓reduceIte, go_sem, D4.2.1, D4.2.2.1, ← hh6, W.at, W.2.1, E1.2.1, E1.2.2.1, ← hh7, X.at, X.2.1]
    exact hKf
  · have hF' : fltF 20 src = F := by rw [hF, q]; rfl
    simp (disch := first | omega | (simp only [e_ssz, e_psz, e_hszs, List.length_cons, List.length_nil]; try omega; done)) only [↓reduceIte, go_sem, plFaultOf_S, plFaultOf_E, ← hh1, ← hh3, ← hh4, B3.2.1, B3.2.2.1, eq_false (show ¬ ((r : Nat) : Int) = 0 by omega), eq_false (show ¬ ((r : Nat) : Int) = 1 by omega), eq_false (show ¬ ((r : Nat) : Int) = 2 by omega)]
    refine effS_call (.inr (.inr (.inr ⟨rfl, u4, src, rfl, hl, hG.mono st4.ge, fun u5 h5 v hv s5 => ⟨by simp (disch := first | omega | (simp only [e_ssz, e_psz, e_hszs, List.length_cons, List.length_nil]; try omega; done)) only [go_sem], ?_⟩⟩)))
    rw [hF']
    obtain ⟨h6, h7, hh6, hh7, u6, D4, W, E1, X, hKf⟩ := fin u5 h5 F s5 hK
    have D41 := D4.1
    have W1 := W.1
    have E11 := E1.1
    have X1 := X.1
    simp only [fltV]
    simp (disch := first | omega | (simp only [e_ssz, e_psz, e_hszs, List.length_cons, List.length_nil]; try omega; done)) only [↓reduceIte, go_sem, D4.2.1, D4.2.2.1, ← hh6, W.at, W.2.1, E1.2.1, E1.2.2.1, ← hh7, X.at, X.2.1]
    exact hKf
end Go.Proofs.YtmnfhmbmifompaaDoor
