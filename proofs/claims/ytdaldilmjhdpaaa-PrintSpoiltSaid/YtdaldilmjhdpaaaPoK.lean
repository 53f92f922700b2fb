/- PrintSpoilt: spoilt. -/
import Derived.Test.YtdaldilmjhdpaaaPoJ
namespace Go.Proofs.Ytdaldilmjhdpaaa
open Go Go.Ev Edict
def C_poSpo (vs : List Value) (h : H) (K : Value → H → Prop) : Prop := ∃ (u : U) (a : Atom) (xa : Option Addr) (xc k w : Nat), vs = [.agg #[str a.1, .slice xa a.2.1.length xc, .int .i64 a.2.2, .slice none 0 0], .int .i64 w] ∧ Own k u h (.slice xa a.2.1.length xc) a.2.1 ∧ k ≤ h.size ∧ a.2.1.length ≤ 8 ∧ w < 12 ∧ Kp u h a (.slice xa a.2.1.length xc) w K
theorem poSpo_ok {vs : List Value} {h : H} {K : Value → H → Prop} {KP : List PanicEntry → H → Prop} (hC : C_poSpo vs h K) : HCX Try.prog 6 vs h K KP := by
  obtain ⟨u, a, xa, xc, k, w, rfl, oA, hk, hl8, hw, hK⟩ := hC
  have hm := mlenP
  refine poSpo_H G0 (fun _ _ _ _ _ h => h.elim) _ _ ?_
  rw [poSpo_cut]
  obtain ⟨p, hp⟩ : ∃ p, p = h.size := ⟨_, rfl⟩
  have s1 := Step.push0 S0 u h #[str a.1, .slice xa a.2.1.length xc, .int .i64 a.2.2, .slice none 0 0] 31
  have B2 := Blk.new (u := u) (h := h) [str a.1, .slice xa a.2.1.length xc, .int .i64 a.2.2, .slice none 0 0] 31
  obtain ⟨u1, hu1⟩ : ∃ u1, u1 = ub u h.size 0 := ⟨_, rfl⟩
  obtain ⟨h1, hh1⟩ : ∃ h1, h1 = h.push (.cells #[str a.1, .slice xa a.2.1.length xc, .int .i64 a.2.2, .slice none 0 0] 31) := ⟨_, rfl⟩
  have z1 : h1.size = p + 1 := by rw [hh1, hp]; simp only [e_psz]
  have B2 : Blk u1 h1 p [str a.1, .slice xa a.2.1.length xc, .int .i64 a.2.2, .slice none 0 0] := by rw [hu1, hh1, hp]; exact B2
  rw [← hu1, ← hh1] at s1
  have s2 := Step.push0 S0 u1 h1 #[str [], .slice none 0 0, .int .i64 0, .slice none 0 0] 31
  have B4 := Blk.new (u := u1) (h := h1) [str [], .slice none 0 0, .int .i64 0, .slice none 0 0] 31
  obtain ⟨u2, hu2⟩ : ∃ u2, u2 = ub u1 h1.size 0 := ⟨_, rfl⟩
  obtain ⟨h2, hh2⟩ : ∃ h2, h2 = h1.push (.cells #[str [], .slice none 0 0, .int .i64 0, .slice none 0 0] 31) := ⟨_, rfl⟩
  have z2 : h2.size = p + 2 := by rw [hh2]; simp only [e_psz, z1]
  have B4 : Blk u2 h2 (p + 1) [str [], .slice none 0 0, .int .i64 0, .slice none 0 0] := by rw [hu2, hh2, ← z1]; exact B4
  rw [← hu2, ← hh2] at s2
  have s3 := Step.push0 S0 u2 h2 #[.int .i64 4, .int .i64 0, str [88], .int .i64 0] 43
  have B6 := Blk.new (u := u2) (h := h2) [.int .i64 4, .int .i64 0, str [88], .int .i64 0] 43
  obtain ⟨u3, hu3⟩ : ∃ u3, u3 = ub u2 h2.size 0 := ⟨_, rfl⟩
  obtain ⟨h3, hh3⟩ : ∃ h3, h3 = h2.push (.cells #[.int .i64 4, .int .i64 0, str [88], .int .i64 0] 43) := ⟨_, rfl⟩
  have z3 : h3.size = p + 3 := by rw [hh3]; simp only [e_psz, z2]
  have B6 : Blk u3 h3 (p + 2) [.int .i64 4, .int .i64 0, str [88], .int .i64 0] := by rw [hu3, hh3, ← z2]; exact B6
  rw [← hu3, ← hh3] at s3
  have s4 := Step.push0 S0 u3 h3 #[.int .i64 1, str [113], .slice none 0 0, .int .i64 0, .int .i64 0, .int .i64 0, .int .i64 0, str [], .int .i64 0, .int .i64 0, .int .i64 0, str [], .int .i64 0, .int .i64 0] 49
  have B7 := Blk.new (u := u3) (h := h3) [.int .i64 1, str [113], .slice none 0 0, .int .i64 0, .int .i64 0, .int .i64 0, .int .i64 0, str [], .int .i64 0, .int .i64 0, .int .i64 0, str [], .int .i64 0, .int .i64 0] 49
  rw [z3] at B7 s4
  have st := ((s1.trans0 s2).trans0 s3).trans0 s4
  have oA4 := oA.step0 st
  have hz4 : k ≤ (h3.push (.cells #[.int .i64 1, str [113], .slice none 0 0, .int .i64 0, .int .i64 0, .int .i64 0, .int .i64 0, str [], .int .i64 0, .int .i64 0, .int .i64 0, str [], .int .i64 0, .int .i64 0] 49)).size := Nat.le_trans hk st.ge.sz
  simp (disch := first | omega | (simp only [e_ssz, e_psz, e_hszs, List.length_cons, List.length_nil]; try omega; done)) only [↓reduceIte, go_sem, sF, sS, poSpo_S]
  rw [← hp]
  have Y : ∀ (n : Nat) (σ : Env), σ 1 = .int .i64 n → σ 2 = .pointer (some ⟨p, 0, none⟩) → σ 4 = .pointer (some ⟨p + 1, 0, none⟩) → σ 6 = .pointer (some ⟨p + 1 + 1, 0, none⟩) → σ 7 = .pointer (some ⟨p + 1 + 1 + 1, 0, none⟩) → SpY u h a xa xc p k n σ _ _ := fun n σ g1 g2 g4 g6 g7 =>
    ⟨st, by omega, g1, g2, g4, g6, g7, ((B2.step0 s2).step0 s3).step0 s4, (B4.step0 s3).step0 s4, B6.step0 s4, B7, oA4, fun j hj => oA.lt hj⟩
  rw [← hh1, ← hh2, ← hh3]
  have hc : w = 0 ∨ w = 1 ∨ w = 2 ∨ w = 3 ∨ w = 4 ∨ w = 5 ∨ w = 6 ∨ w = 7 ∨ w = 8 ∨ w = 9 ∨ w = 10 ∨ w = 11 := by omega
  rcases hc with rfl | rfl | rfl | rfl | rfl | rfl | rfl | rfl | rfl | rfl | rfl | rfl
  · exact pg0_ok (Y _ _ (by simp [upd]) (by simp [upd]) (by simp [upd]) (by simp [upd]) (by simp [upd])) hK
  · exact pg1_ok hz4 hl8 (Y _ _ (by simp [upd]) (by simp [upd]) (by simp [upd]) (by simp [upd]) (by simp [upd])) hK
  · exact pg2_ok (Y _ _ (by simp [upd]) (by simp [upd]) (by simp [upd]) (by simp [upd]) (by simp [upd])) hK
  · exact pg3_ok (Y _ _ (by simp [upd]) (by simp [upd]) (by simp [upd]) (by simp [upd]) (by simp [upd])) hK
  · exact pg4_ok (Y _ _ (by simp [upd]) (by simp [upd]) (by simp [upd]) (by simp [upd]) (by simp [upd])) hK
  · exact pg5_ok (Y _ _ (by simp [upd]) (by simp [upd]) (by simp [upd]) (by simp [upd]) (by simp [upd])) hK
  · exact pg6_ok (Y _ _ (by simp [upd]) (by simp [upd]) (by simp [upd]) (by simp [upd]) (by simp [upd])) hK
  · exact pg7_ok (Y _ _ (by simp [upd]) (by simp [upd]) (by simp [upd]) (by simp [upd]) (by simp [upd])) hK
  · exact pg8_ok (Y _ _ (by simp [upd]) (by simp [upd]) (by simp [upd]) (by simp [upd]) (by simp [upd])) hK
  · exact pg9_ok (Y _ _ (by simp [upd]) (by simp [upd]) (by simp [upd]) (by simp [upd]) (by simp [upd])) hK
  · exact pg10_ok (Y _ _ (by simp [upd]) (by simp [upd]) (by simp [upd]) (by simp [upd]) (by simp [upd])) hK
  · exact pg11_ok (Y _ _ (by simp [upd]) (by simp [upd]) (by simp [upd]) (by simp [upd]) (by simp [upd])) hK
end Go.Proofs.Ytdaldilmjhdpaaa
