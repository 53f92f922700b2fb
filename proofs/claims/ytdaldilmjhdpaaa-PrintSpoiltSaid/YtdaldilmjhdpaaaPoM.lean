/- PrintSpoilt: what is made is well formed data. -/
import Derived.Test.YtdaldilmjhdpaaaPoE
namespace Edict
open Go Go.Ev
theorem wfi {n : Int} (h0 : -1000000 ≤ n) (h1 : n ≤ 1000000) : Rep.wf n := by
  show -9223372036854775808 ≤ n ∧ n ≤ 9223372036854775807
  omega
theorem w0 : Rep.wf (0 : Int) := wfi (by decide) (by decide)
theorem w1 : Rep.wf (1 : Int) := wfi (by decide) (by decide)
theorem w2 : Rep.wf (2 : Int) := wfi (by decide) (by decide)
theorem w3 : Rep.wf (3 : Int) := wfi (by decide) (by decide)
theorem w4 : Rep.wf (4 : Int) := wfi (by decide) (by decide)
theorem wfs {s : Byts} (h : s.length ≤ 1000000) : Rep.wf s := by
  show s.length ≤ maxLen
  have : maxLen = 9223372036854775807 := rfl
  omega
theorem wfl {α : Type} [Rep α] {l : List α} (h : l.length ≤ 1000000) (hw : ∀ x ∈ l, Rep.wf x) : Rep.wf l := by
  refine ⟨?_, hw⟩
  have : maxLen = 9223372036854775807 := rfl
  omega
theorem wf_name (s : Byts) : Rep.wf (nameM s) := wfs (by have := name_len2 s; omega)
theorem wf_con {k n : Int} {s : Byts} (hn : Rep.wf n) : Rep.wf (conM k n s) := by
  unfold conM
  split
  · exact ⟨w1, hn, (wfs (by decide) : Rep.wf ([] : Byts))⟩
  · split
    · exact ⟨w2, w0, wf_name s⟩
    · exact ⟨w3, w0, wfs (by rw [List.length_take]; omega)⟩
theorem wf_trm {t : Term} (h : Rep.wf t) : Rep.wf (trmM t) := by
  unfold trmM
  split
  · exact ⟨w4, w0, (wfs (by have := var_len (var_ok t.2.2.1); omega) : Rep.wf (varM t.2.2.1)), h.2.2.2⟩
  · have hc := wf_con (k := t.1) (s := t.2.2.1) h.2.1
    exact ⟨hc.1, hc.2.1, hc.2.2, h.2.2.2⟩
theorem wf_mad {a : Atom} (h : Rep.wf a) : Rep.wf (madM a) := ⟨wf_name _, wfl (by show ((a.2.1.take 8).map trmM).length ≤ 1000000; rw [List.length_map, List.length_take]; omega) (fun t ht => by
  obtain ⟨x, hx, rfl⟩ := List.mem_map.1 ht
  exact wf_trm (h.2.1.2 x (List.mem_of_mem_take hx))), h.2.2⟩
theorem wf_zT : Rep.wf zT := ⟨w0, w0, wfs (by decide), w0⟩
theorem wf_zA : Rep.wf zA := ⟨wfs (by decide), wfl (by decide) (fun x hx => nomatch hx), w0⟩
theorem wf_vX : Rep.wf vX := ⟨w4, w0, wfs (by decide), w0⟩
theorem wf_aQ : Rep.wf aQ := ⟨wfs (by decide), wfl (by decide) (fun x hx => nomatch hx), w0⟩
theorem wf_lit {x : Literal} (h : Rep.wf x) : Rep.wf (litMk x) := by
  unfold litMk
  split
  · exact ⟨w3, wf_zA, wfi (by show -1000000 ≤ 1 + x.2.2.1 % 6; omega) (by show 1 + x.2.2.1 % 6 ≤ 1000000; omega), wf_trm h.2.2.2.1, wf_trm h.2.2.2.2.1, h.2.2.2.2.2⟩
  · split
    · exact ⟨w1, wf_mad h.2.1, w0, wf_zT, wf_zT, h.2.2.2.2.2⟩
    · exact ⟨w2, wf_mad h.2.1, w0, wf_zT, wf_zT, h.2.2.2.2.2⟩
theorem wf_cla {c : Clause} (h : Rep.wf c) : Rep.wf (claM c) := ⟨wf_mad h.1, wfl (by show ((c.2.take 16).map litMk).length ≤ 1000000; rw [List.length_map, List.length_take]; omega) (fun x hx => by
  obtain ⟨y, hy, rfl⟩ := List.mem_map.1 hx
  exact wf_lit (h.2.2 y (List.mem_of_mem_take hy)))⟩
theorem wf_lQ : Rep.wf lQ := ⟨w1, wf_aQ, w0, wf_zT, wf_zT, w0⟩
theorem wf_one {α : Type} [Rep α] {x : α} (h : Rep.wf x) : Rep.wf [x] := wfl (by show (1 : Nat) ≤ 1000000; decide) (fun y hy => by rcases List.mem_singleton.1 hy with rfl; exact h)
theorem wf_spo {a : Atom} {w : Nat} (h : Rep.wf a) (h8 : a.2.1.length ≤ 8) (hw : w < 12) : Rep.wf (spoC a w) := by
  have hc : w = 0 ∨ w = 1 ∨ w = 2 ∨ w = 3 ∨ w = 4 ∨ w = 5 ∨ w = 6 ∨ w = 7 ∨ w = 8 ∨ w = 9 ∨ w = 10 ∨ w = 11 := by omega
  have hnil : Rep.wf ([] : List Literal) := wfl (by decide) (fun x hx => nomatch hx)
  have hnot : Rep.wf ([110, 111, 116] : Byts) := wfs (by decide)
  rcases hc with rfl | rfl | rfl | rfl | rfl | rfl | rfl | rfl | rfl | rfl | rfl | rfl
  · exact ⟨⟨(wfs (by decide) : Rep.wf ([81] : Byts)), h.2⟩, hnil⟩
  · refine ⟨⟨h.1, wfl ?_ fun t ht => ?_, h.2.2⟩, hnil⟩
    · show (a.2.1 ++ List.replicate (9 - a.2.1.length) vX).length ≤ 1000000
      rw [List.length_append, List.length_replicate]; omega
    · have ht : t ∈ a.2.1 ++ List.replicate (9 - a.2.1.length) vX := ht
      rcases List.mem_append.1 ht with ht | ht
      · exact h.2.1.2 t ht
      · rw [List.eq_of_mem_replicate ht]; exact wf_vX
  · exact ⟨⟨h.1, wf_one wf_zT, h.2.2⟩, hnil⟩
  · exact ⟨⟨h.1, wf_one (⟨w4, w1, wfs (by decide), w0⟩ : Rep.wf ((4, 1, [88], 0) : Term)), h.2.2⟩, hnil⟩
  · refine ⟨h, wfl ?_ fun x hx => ?_⟩
    · show (List.replicate 17 lQ).length ≤ 1000000
      rw [List.length_replicate]; decide
    · have hx : x ∈ List.replicate 17 lQ := hx
      rw [List.eq_of_mem_replicate hx]; exact wf_lQ
  · exact ⟨h, wf_one (⟨w0, wf_aQ, w0, wf_zT, wf_zT, w0⟩ : Rep.wf ((0, aQ, 0, zT, zT, 0) : Literal))⟩
  · exact ⟨h, wf_one (⟨w1, wf_aQ, w1, wf_zT, wf_zT, w0⟩ : Rep.wf ((1, aQ, 1, zT, zT, 0) : Literal))⟩
  · exact ⟨h, wf_one (⟨w3, wf_zA, wfi (by decide) (by decide), wf_vX, wf_vX, w0⟩ : Rep.wf ((3, zA, 7, vX, vX, 0) : Literal))⟩
  · exact ⟨h, wf_one (⟨w3, wf_aQ, w1, wf_vX, wf_vX, w0⟩ : Rep.wf ((3, aQ, 1, vX, vX, 0) : Literal))⟩
  · exact ⟨h, wf_one (⟨w1, wf_aQ, w0, ⟨w1, w0, wfs (by decide), w0⟩, wf_zT, w0⟩ : Rep.wf ((1, aQ, 0, (1, 0, [], 0), zT, 0) : Literal))⟩
  · exact ⟨h, wf_one (⟨w3, wf_zA, w1, wf_vX, ⟨w2, w0, hnot, w0⟩, w0⟩ : Rep.wf ((3, zA, 1, vX, (2, 0, [110, 111, 116], 0), 0) : Literal))⟩
  · exact ⟨h, wf_one (⟨w2, ⟨hnot, wfl (by decide) (fun x hx => nomatch hx), w0⟩, w0, wf_zT, wf_zT, w0⟩ : Rep.wf ((2, ([110, 111, 116], [], 0), 0, zT, zT, 0) : Literal))⟩
end Edict
