/- PrintSpoilt: spoilt's way 1. -/
import Derived.Test.YtdaldilmjhdpaaaPoH
namespace Go.Proofs.Ytdaldilmjhdpaaa
open Go Go.Ev Edict
theorem pg1_ok {K : Value → H → Prop} {KP : List PanicEntry → H → Prop} {u0 : U} {h0 : H} {a : Atom} {xa : Option Addr} {xc p k : Nat} {σ : Env} {u : U} {h : H} (hk : k ≤ h.size) (hl8 : a.2.1.length ≤ 8) (Y : SpY u0 h0 a xa xc p k 1 σ u h) (hK : Kp u0 h0 a (.slice xa a.2.1.length xc) 1 K) : wpS G0 pgT (retQ poSpo_E (callK K KP)) σ h := by
  obtain ⟨st, lo, e1, e2, e4, e6, e7, B2, B4, B6, B7, oA, own⟩ := Y
  have hm := mlenP
  have b2 := B2.1
  have b4 := B4.1
  obtain ⟨vA, hvA⟩ : ∃ vA : Value, vA = .slice xa a.2.1.length xc := ⟨_, rfl⟩
  rw [← hvA] at oA own hK
  have b6 := B6.1
  have hp3 := B7.1
  have ho : ∀ j, OwnB vA j → j ≠ p ∧ j ≠ p + 1 ∧ j ≠ p + 2 ∧ j < h.size := fun j hj => by have := own j hj; have := st.ge.sz; omega
  simp (disch := first | omega | (simp only [e_ssz, e_psz, e_hszs, List.length_cons, List.length_nil]; try omega; done)) only [↓reduceIte, go_sem, pgT, sS, poSpo_S, poSpo_E, e1]
  obtain ⟨I, hI⟩ : ∃ I : Nat → Env → H → Prop, I = fun i σ h' => σ 2 = .pointer (some ⟨p, 0, none⟩) ∧ σ 4 = .pointer (some ⟨p + 1, 0, none⟩) ∧ σ 6 = .pointer (some ⟨p + 2, 0, none⟩) ∧ a.2.1.length + i ≤ 9 ∧
    ∃ (u' : U) (vB : Value), Step (OwnB vA) u0 h0 u' h' ∧ h.size ≤ h'.size ∧ Own k u' h' vB (a.2.1 ++ List.replicate i vX) ∧ (∀ j, OwnB vB j → OwnB vA j ∨ h.size ≤ j) ∧ Blk u' h' p [str a.1, vB, .int .i64 a.2.2, .slice none 0 0] ∧ Blk u' h' (p + 1) [str [], .slice none 0 0, .int .i64 0, .slice none 0 0] ∧ Blk u' h' (p + 2) [.int .i64 4, .int .i64 0, str [88], .int .i64 0] := ⟨_, rfl⟩
  refine wpS_loop I (fun i => 9 - a.2.1.length - i) 0 (by rw [hI]; exact ⟨by simp [upd, e2], by simp [upd, e4], by simp [upd, e6], by omega, u, vA, st.mono (fun _ _ h => h.elim), Nat.le_refl _, by simpa using oA, fun j hj => .inl hj, by rw [hvA]; exact B2, B4, B6⟩) ?_
  clear e1 e2 e4 e6 e7 B2 B4 B6 b2 b4 b6
  intro i σ h1 hy
  rw [hI] at hy
  obtain ⟨e2, e4, e6, hi, u1, vB, t, hz, oB, oV, B2, B4, B6⟩ := hy
  have b2 := B2.1
  have b4 := B4.1
  have b6 := B6.1
  have hlen : (a.2.1 ++ List.replicate i vX).length = a.2.1.length + i := by rw [List.length_append, List.length_replicate]
  have ne : ∀ j, OwnB vB j → j ≠ p ∧ j ≠ p + 1 ∧ j ≠ p + 2 := fun j hj => by
    rcases oV j hj with hq | hq
    · have := ho j hq; omega
    · omega
  obtain ⟨ya, yc, rfl, -, -⟩ := oB.sl
  by_cases hlt : a.2.1.length + i < 9
  · simp (disch := first | omega | (simp only [e_ssz, e_psz, e_hszs, List.length_cons, List.length_nil]; try omega; done)) only [↓reduceIte, go_sem, poSpo_L1, e2, e6, B2.at, B2.2.1, B6.at, B6.2.1, hlen, eq_true (show ((a.2.1.length + i : Nat) : Int) < 9 by omega)]
    rw [← hlen]
    refine effS_app1o rfl oB (x := vX) (cs := [.int .i64 4, .int .i64 0, str [88], .int .i64 0]) (rep_term.mpr rfl) rfl rfl (by omega) (by rw [hlen]; omega) fun a3 n3 c3 u3 h3 o3 s3 b3' => ⟨by simp (disch := first | omega | (simp only [e_ssz, e_psz, e_hszs, List.length_cons, List.length_nil]; try omega; done)) only [go_sem], ?_⟩
    have D2 := B2.step s3 (fun hj => (ne _ hj).1 rfl)
    have D4 := B4.step s3 (fun hj => (ne _ hj).2.1 rfl)
    have D6 := B6.step s3 (fun hj => (ne _ hj).2.2 rfl)
    have sw := D2.stepSet (i := 1) (v := .slice a3 n3 c3)
    have E2 := D2.set (i := 1) (v := .slice a3 n3 c3) (by simp)
    have d2 := D2.1
    have x2 := D2.2.1
    have y2 := D2.2.2.1
    simp (disch := first | omega | (simp only [e_ssz, e_psz, e_hszs, List.length_cons, List.length_nil]; try omega; done)) only [↓reduceIte, go_sem, e2, x2, y2]
    have hz3 := s3.ge.sz
    have ne3 : ∀ j, OwnB (.slice a3 n3 c3) j → OwnB vA j ∨ h.size ≤ j := fun j hj => (b3' j hj).elim (oV j) (fun q => .inr (by omega))
    have t3 : Step (OwnB vA) u0 h0 u3 h3 := t.trans s3 (fun j hj hB => (oV j hB).elim id (fun q => by have := st.ge.sz; omega))
    refine ⟨i + 1, ?_, by omega⟩
    rw [hI]
    refine ⟨by simp [upd, e2], by simp [upd, e4], by simp [upd, e6], by omega, u3, _, t3.trans sw (fun j hj e => by have e : j = p := e; omega), by rw [e_ssz]; omega, ?_, ne3, E2, D4.step sw (by omega), D6.step sw (by omega)⟩
    rw [List.replicate_succ', ← List.append_assoc]
    exact o3.step sw (fun j hj e => by
      have e : j = p := e
      rcases ne3 j hj with q | q
      · have := ho j q; omega
      · omega)
  · have hi9 : i = 9 - a.2.1.length := by omega
    obtain ⟨L, hL⟩ : ∃ L, L = a.2.1 ++ List.replicate i vX := ⟨_, rfl⟩
    rw [← hL] at oB B2 hlen
    have E4 := B4.sets (l := [str a.1, .slice ya L.length yc, .int .i64 a.2.2, .slice none 0 0]) rfl
    have sx := B4.stepSets (l := [str a.1, .slice ya L.length yc, .int .i64 a.2.2, .slice none 0 0]) rfl
    simp (disch := first | omega | (simp only [e_ssz, e_psz, e_hszs, List.length_cons, List.length_nil]; try omega; done)) only [↓reduceIte, go_sem, poSpo_L1, e2, e4, B2.at, B2.2.1, B4.2.1, B4.2.2.1, hsets_hsz, E4.at, eq_false (show ¬ (L.length : Int) < 9 by omega)]
    have hi := oB.isSl.mono sx.ge
    have hsp : (spoC a 1).1.2.1 = L := by rw [hL, hi9]; rfl
    exact hK _ _ [_, _, _, _] (t.trans sx (fun j hj e => by have e : j = p + 1 := e; omega)) (rep_clause.mpr ⟨_, _, rfl, by rw [hsp]; exact hi, IsSl.nil _ _⟩)
end Go.Proofs.Ytdaldilmjhdpaaa
