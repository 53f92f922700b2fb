/- What comes in, for the laws of print: the texts' lengths, the table of powers from the world's shape. -/
import Derived.Test.YtdaldilmjhdpaaaRdProg
import Derived.Test.YtdaldilmjhdpaaaPoE
import Derived.Test.YtdaldilmjhdpaaaKvB
import Derived.HandedShaped
namespace Go.Proofs.Ytdaldilmjhdpaaa
open Go Go.Ev Edict Go.ChangeShapes Go.WideShapes Go.ChangeAt Go.RowKit
theorem mxL {s : List UInt8} (h : Rep.wf s) : s.length ≤ 9223372036854775807 := h
theorem atomS_of {a : Atom} (h : Rep.wf a) : AtomS a := ⟨mxL h.1, fun t ht => mxL (h.2.1.2 t ht).2.2.1⟩
theorem litS_of {x : Literal} (h : Rep.wf x) : LitS x := ⟨atomS_of h.2.1, mxL h.2.2.2.1.2.2.1, mxL h.2.2.2.2.1.2.2.1⟩
theorem claS_of {c : Clause} (h : Rep.wf c) : ClaS c := ⟨atomS_of h.1, fun x hx => litS_of (h.2.2 x hx)⟩
/- The table of powers has twenty numbers, whichever. -/
set_option maxRecDepth 100000 in
set_option linter.constructorNameAsVariable false in
theorem powT_of {W : World} (h : W.ShapedOpen Try.prog) : PowT (hsz W.heap) W.heap := by
  obtain ⟨cs, hh, hs, hr⟩ := h.1 0 (Array.replicate 20 (.int .u64 0)) 125 (of_decide_eq_true (by kernel_rfl)) (by kernel_rfl)
  have hz : hsz W.heap 0 = 20 := by
    unfold hsz
    rw [hh]
    exact hs.trans Array.size_replicate
  have hl : 0 < W.heap.size := (Array.getElem?_eq_some_iff.1 hh).1
  refine ⟨hl, hz, by rw [hz]; exact Nat.le_refl _, fun i hi => ?_⟩
  obtain ⟨ts, hts, _, hall⟩ := hr (by kernel_rfl)
  have hct : Try.prog.cellTypes Try.prog.depth 125 = some (List.replicate 20 118) := by kernel_rfl
  rw [hct] at hts
  have hts := Option.some.inj hts
  subst hts
  have h1 : i < cs.size := by rw [hs, Array.size_replicate]; exact hi
  obtain ⟨u, hu', hok⟩ := hall i cs[i] (Array.getElem?_eq_getElem h1)
  have hu : u = 118 := by
    rw [List.length_replicate, Nat.mod_eq_of_lt hi, List.getElem?_replicate, if_pos hi] at hu'
    exact (Option.some.inj hu').symm
  subst hu
  unfold Cell.ok at hok
  rw [show Try.prog.underlying 118 = some (.int .u64) from Try.underlying118] at hok
  have hv : Go.Ev.hv W.heap 0 i = cs[i] := by
    unfold Go.Ev.hv hc
    rw [hh]
    simp [h1]
  rw [hv]
  cases hc : cs[i] <;> rw [hc] at hok <;> simp at hok
  case int k' n => exact ⟨n, by rw [hok.1]⟩
end Go.Proofs.Ytdaldilmjhdpaaa
