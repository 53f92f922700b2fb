/- factIs, and one fact read, walked. -/
import Derived.Test.YtmnfhmbmifompaaDoorPlG
import Derived.Test.YtmnfhmbmifompaaDoorPlV0
namespace Edict
def resOneD (src : List UInt8) : AtomT × Flt := match parseF oneD src with | .error e => (noAtom, e) | .ok a => (a, (0, 0))
end Edict
namespace Go.Proofs.YtmnfhmbmifompaaDoor
open Go Go.Ev Edict
def C_pOneU (vs : List Value) (h : H) (K : Value → H → Prop) : Prop := ∃ (u : U) (src : List UInt8), vs = [str src] ∧ src.length ≤ 9223372036854775807 ∧ LxG u h ∧ ∀ u' h' w, Step S0 u h u' h' → Own h.size u' h' w ((resOneD src).1.2.1.map constD) → K (.tuple #[.agg #[str (resOneD src).1.1, w], fltV (resOneD src).2]) h'
theorem psOneU_ok {vs : List Value} {h : H} {K : Value → H → Prop} {KP : List PanicEntry → H → Prop} (hC : C_pOneU vs h K) : HCX Tryd.prog 19 vs h K KP := by
  obtain ⟨u, src, rfl, hl, hG, hK⟩ := hC
  refine psFact_ok ⟨u, src, rfl, hl, hG, fun e he u' h' s => ?_, fun a ha u' h' w s o => ?_⟩
  · have hr : resOneD src = (noAtom, e) := by unfold resOneD; rw [he]
    rw [hr] at hK
    exact hK u' h' _ s (.nil _ _ _)
  · have hr : resOneD src = (a, (0, 0)) := by unfold resOneD; rw [ha]
    rw [hr] at hK
    exact hK u' h' _ s o
def C_factIs (vs : List Value) (h : H) (K : Value → H → Prop) : Prop := ∃ (u : U) (p : List UInt8) (v w : Value) (l : List TermT) (o : Int), vs = [.agg #[str p, v], .agg #[str p, w, .int .i64 o]] ∧ IsSl u h v (l.map constD) ∧ IsSl u h w l ∧ ∀ u' h', Step S0 u h u' h' → K (.bool true) h'
theorem plFactIs_ok {vs : List Value} {h : H} {K : Value → H → Prop} {KP : List PanicEntry → H → Prop} (hC : C_factIs vs h K) : HCX Tryd.prog 42 vs h K KP := by
  obtain ⟨u, p, v, w, l, o, rfl, iv, iw, hK⟩ := hC
  obtain ⟨va, vc, rfl, m1, m2⟩ := iv.sl
  obtain ⟨wa, wc, rfl, n1, n2⟩ := iw.sl
  have hm := mlen'
  have hml : (l.map constD).length = l.length := List.length_map _
  rw [hml] at iv m1
  refine plFactIs_H (fun _ _ _ _ _ => False) (fun _ _ _ _ _ h => h.elim) _ _ ?_
  obtain ⟨u1, s1, B1, B2⟩ := two_new (u := u) (h := h) [str p, .slice va l.length vc] [str p, .slice wa l.length wc, .int .i64 o] 24 52
  have jv := iv.mono s1.ge
  have jw := iw.mono s1.ge
  have hK' := hK _ _ s1
  obtain ⟨h1, hh1⟩ : ∃ h1, h1 = (h.push (.cells #[str p, .slice va l.length vc] 24)).push (.cells #[str p, .slice wa l.length wc, .int .i64 o] 52) := ⟨_, rfl⟩
  rw [← hh1] at B1 B2 jv jw hK'
  have B11 := B1.1
  have B21 := B2.1
  rw [hml]
  simp (disch := first | omega | (simp only [e_ssz, e_psz, e_hszs, List.length_cons, List.length_nil]; try omega; done)) only [↓reduceIte, go_sem, plFactIs_S, plFactIs_E, ← hh1, B1.at, B1.2.1, B2.at, B2.2.1]
  obtain ⟨I, hI⟩ : ∃ I : Nat → Env → H → Prop, I = fun k σ h' => σ 2 = .pointer (some ⟨h.size, 0, none⟩) ∧ σ 3 = .pointer (some ⟨h.size + 1, 0, none⟩) ∧ σ 22 = .int .i64 (l.length : Nat) ∧ σ 23 = .int .i64 k ∧ k ≤ l.length ∧ h' = h1 := ⟨_, rfl⟩
  refine wpS_loop I (fun j => l.length - j) 0 (by rw [hI]; exact ⟨by simp [upd], by simp [upd], by simp [upd], by simp [upd], by omega, rfl⟩) ?_
  intro k σ h' hy
  rw [hI] at hy
  obtain ⟨e2, e3, e22, e23, hk, rfl⟩ := hy
  by_cases hlt : k < l.length
  case neg =>
    simp (disch := first | omega | (simp only [e_ssz, e_psz, e_hszs, List.length_cons, List.length_nil]; try omega; done)) only [↓reduceIte, go_sem, plFactIs_L1, e22, e23, eq_false (show ¬ (k : Int) < (l.length : Nat) by omega)]
    exact hK'
  obtain ⟨x, hx⟩ : ∃ x, l[k]? = some x := ⟨l[k], by simp [hlt]⟩
  obtain ⟨pb, po, rfl, hpb, hpu, hpz, hpr⟩ := jv.row k (constD x) (by rw [List.getElem?_map, hx]; rfl)
  obtain ⟨qb, qo, rfl, hqb, hqu, hqz, hqr⟩ := jw.row k x hx
  rw [rep_const, show constD x = (x.1, x.2.1, x.2.2.1) from rfl] at hpr
  rw [rep_term] at hqr
  simp only [termE, sz_const, sz_term, hvs_3, hvs_4, List.cons.injEq, and_true] at hpr hpu hpz hqr hqu hqz
  obtain ⟨p0, p1, p2⟩ := hpr
  obtain ⟨q0, q1, q2, q3⟩ := hqr
  simp (disch := first | omega | (simp only [e_ssz, e_psz, e_hszs, List.length_cons, List.length_nil]; try omega; done)) only [↓reduceIte, go_sem, plFactIs_L1, e2, e3, e22, e23, eq_true (show (k : Int) < (l.length : Nat) by omega), B1.at, B1.2.1, B2.at, B2.2.1, p0, p1, p2, q0, q1, q2]
  refine ⟨k + 1, ?_, by omega⟩
  rw [hI]
  refine ⟨?_, ?_, ?_, ?_, hlt, rfl⟩ <;> simp [upd, e2, e3, e22]
end Go.Proofs.YtmnfhmbmifompaaDoor
