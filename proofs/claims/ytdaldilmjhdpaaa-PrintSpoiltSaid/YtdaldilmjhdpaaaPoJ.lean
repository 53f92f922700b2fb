/- PrintSpoilt: spoilt's way 4. -/
import Derived.Test.YtdaldilmjhdpaaaPoI
namespace Go.Proofs.Ytdaldilmjhdpaaa
open Go Go.Ev Edict
theorem pg4_ok {K : Value → H → Prop} {KP : List PanicEntry → H → Prop} {u0 : U} {h0 : H} {a : Atom} {xa : Option Addr} {xc p k : Nat} {σ : Env} {u : U} {h : H} (Y : SpY u0 h0 a xa xc p k 4 σ u h) (hK : Kp u0 h0 a (.slice xa a.2.1.length xc) 4 K) : wpS G0 pgT (retQ poSpo_E (callK K KP)) σ h := by
  obtain ⟨st, lo, e1, e2, e4, e6, e7, B2, B4, B6, B7, oA, own⟩ := Y
  have hm := mlenP
  have hp3 := B7.1
  have iA := oA.isSl
  simp (disch := first | omega | (simp only [e_ssz, e_psz, e_hszs, List.length_cons, List.length_nil]; try omega; done)) only [↓reduceIte, go_sem, pgT, sS, poSpo_S, poSpo_E, e1]
  obtain ⟨I, hI⟩ : ∃ I : Nat → Env → H → Prop, I = fun i σ h' => σ 2 = .pointer (some ⟨p, 0, none⟩) ∧ σ 4 = .pointer (some ⟨p + 1, 0, none⟩) ∧ σ 7 = .pointer (some ⟨p + 3, 0, none⟩) ∧ i ≤ 17 ∧
    ∃ (u' : U) (vB : Value), Step S0 u0 h0 u' h' ∧ h.size ≤ h'.size ∧ Own h.size u' h' vB (List.replicate i lQ) ∧ Blk u' h' p [str a.1, .slice xa a.2.1.length xc, .int .i64 a.2.2, vB] ∧ Blk u' h' (p + 1) [str [], .slice none 0 0, .int .i64 0, .slice none 0 0] ∧ Blk u' h' (p + 3) [.int .i64 1, str [113], .slice none 0 0, .int .i64 0, .int .i64 0, .int .i64 0, .int .i64 0, str [], .int .i64 0, .int .i64 0, .int .i64 0, str [], .int .i64 0, .int .i64 0] ∧ IsSl u' h' (.slice xa a.2.1.length xc) a.2.1 := ⟨_, rfl⟩
  refine wpS_loop I (fun i => 17 - i) 0 (by rw [hI]; exact ⟨by simp [upd, e2], by simp [upd, e4], by simp [upd, e7], by omega, u, .slice none 0 0, st, Nat.le_refl _, .nil _ _ _, B2, B4, B7, iA⟩) ?_
  clear e1 e2 e4 e6 e7 B2 B4 B6 B7 iA oA
  intro i σ h1 hy
  rw [hI] at hy
  obtain ⟨e2, e4, e7, hi, u1, vB, t, hz, oB, B2, B4, B7, iA⟩ := hy
  have b2 := B2.1
  have b4 := B4.1
  have b7 := B7.1
  have ne : ∀ j, OwnB vB j → h.size ≤ j := fun j hj => oB.ge hj
  obtain ⟨L, hL⟩ : ∃ L, L = List.replicate i lQ := ⟨_, rfl⟩
  have hlen : L.length = i := by rw [hL, List.length_replicate]
  rw [← hL] at oB
  obtain ⟨ya, yc, rfl, -, -⟩ := oB.sl
  by_cases hlt : i < 17
  · simp (disch := first | omega | (simp only [e_ssz, e_psz, e_hszs, List.length_cons, List.length_nil]; try omega; done)) only [↓reduceIte, go_sem, poSpo_L2, e2, e7, B2.at, B2.2.1, B7.at, B7.2.1, eq_true (show (L.length : Int) < 17 by omega)]
    refine effS_app1o rfl oB (x := lQ) (rep_literal.mpr ⟨_, rfl, IsSl.nil _ _⟩) rfl rfl (by omega) (by rw [hlen]; omega) fun a3 n3 c3 u3 h3 o3 s3 b3' => ⟨by simp (disch := first | omega | (simp only [e_ssz, e_psz, e_hszs, List.length_cons, List.length_nil]; try omega; done)) only [go_sem], ?_⟩
    have D2 := B2.step s3 (fun hj => by have := ne _ hj; omega)
    have D4 := B4.step s3 (fun hj => by have := ne _ hj; omega)
    have D7 := B7.step s3 (fun hj => by have := ne _ hj; omega)
    have sw := D2.stepSet (i := 3) (v := .slice a3 n3 c3)
    have E2 := D2.set (i := 3) (v := .slice a3 n3 c3) (by simp)
    have d2 := D2.1
    have x2 := D2.2.1
    have y2 := D2.2.2.1
    have lo2 := st.ge.sz
    simp (disch := first | omega | (simp only [e_ssz, e_psz, e_hszs, List.length_cons, List.length_nil]; try omega; done)) only [↓reduceIte, go_sem, e2, x2, y2]
    have hz3 := s3.ge.sz
    refine ⟨i + 1, ?_, by omega⟩
    rw [hI]
    refine ⟨by simp [upd, e2], by simp [upd, e4], by simp [upd, e7], hlt, u3, _, (t.own s3 (fun j hj => by have := ne _ hj; omega)).own sw (fun j e => by have e : j = p := e; omega), by rw [e_ssz]; omega, ?_, E2, D4.step sw (by omega), D7.step sw (by omega), (iA.mono s3.ge).mono sw.ge⟩
    rw [List.replicate_succ', ← hL]
    exact o3.step sw (fun j hj e => by have := o3.ge hj; have e : j = p := e; omega)
  · obtain rfl : i = 17 := by omega
    have hB := oB.isSl
    have E4 := B4.sets (l := [str a.1, .slice xa a.2.1.length xc, .int .i64 a.2.2, .slice ya L.length yc]) rfl
    have sx := B4.stepSets (l := [str a.1, .slice xa a.2.1.length xc, .int .i64 a.2.2, .slice ya L.length yc]) rfl
    simp (disch := first | omega | (simp only [e_ssz, e_psz, e_hszs, List.length_cons, List.length_nil]; try omega; done)) only [↓reduceIte, go_sem, poSpo_L2, e2, e4, B2.at, B2.2.1, B4.2.1, B4.2.2.1, hsets_hsz, E4.at, eq_false (show ¬ (L.length : Int) < 17 by omega)]
    have hi2 := hB.mono sx.ge
    have hsp : (spoC a 4).2 = L := by rw [hL]; rfl
    exact hK _ _ [_, _, _, _] ((t.own sx (fun j e => by have e : j = p + 1 := e; omega)).mono (fun _ _ h => h.elim)) (rep_clause.mpr ⟨_, _, rfl, iA.mono sx.ge, by rw [hsp]; exact hi2⟩)
end Go.Proofs.Ytdaldilmjhdpaaa
