/- What comes in, for the laws of core: programs and facts, their texts within the reach; the table of powers from the world's shape. -/
import Derived.Test.YtkobamedfbgjbaaReadW
import Derived.Test.YtkobamedfbgjbaaEvE
import Derived.Test.YtkobamedfbgjbaaKlE
import Derived.Test.YtkobamedfbgjbaaKvB
import Derived.HandedShaped
namespace Go.Proofs.Ytkobamedfbgjbaa
open Go Go.Ev Edict Go.ChangeShapes Go.WideShapes Go.ChangeAt Go.RowKit
theorem rw_int : ReadsW Try.prog 3 Int := reads_intW Try.underlying3
theorem rw_int64 : ReadsW Try.prog 2 Int := reads_intW Try.underlying2
theorem rw_str : ReadsW Try.prog 9 (List UInt8) := reads_strW Try.underlying9
theorem rw_term : ReadsW Try.prog 94 Term := reads_structW Try.underlying94 (by kernel_rfl) (readsF_consW rw_int (by kernel_rfl) (by kernel_rfl) (readsF_consW rw_int64 (by kernel_rfl) (by kernel_rfl) (readsF_consW rw_str (by kernel_rfl) (by kernel_rfl) (readsF_oneW rw_int (by kernel_rfl) (by kernel_rfl)))))
theorem rw_terms : ReadsW Try.prog 43 (List Term) := reads_sliceW Try.underlying43 (by kernel_rfl) rw_term
theorem rw_atom : ReadsW Try.prog 45 Atom := reads_structW Try.underlying45 (by kernel_rfl) (readsF_consW rw_str (by kernel_rfl) (by kernel_rfl) (readsF_consW rw_terms (by kernel_rfl) (by kernel_rfl) (readsF_oneW rw_int (by kernel_rfl) (by kernel_rfl))))
theorem rw_literal : ReadsW Try.prog 109 Literal := reads_structW Try.underlying109 (by kernel_rfl) (readsF_consW rw_int (by kernel_rfl) (by kernel_rfl) (readsF_consW rw_atom (by kernel_rfl) (by kernel_rfl)
  (readsF_consW rw_int (by kernel_rfl) (by kernel_rfl) (readsF_consW rw_term (by kernel_rfl) (by kernel_rfl) (readsF_consW rw_term (by kernel_rfl) (by kernel_rfl) (readsF_oneW rw_int (by kernel_rfl) (by kernel_rfl)))))))
theorem rw_literals : ReadsW Try.prog 46 (List Literal) := reads_sliceW Try.underlying46 (by kernel_rfl) rw_literal
theorem rw_clause : ReadsW Try.prog 48 Clause := reads_structW Try.underlying48 (by kernel_rfl) (readsF_consW rw_atom (by kernel_rfl) (by kernel_rfl) (readsF_oneW rw_literals (by kernel_rfl) (by kernel_rfl)))
theorem rw_clauses : ReadsW Try.prog 22 (List Clause) := reads_sliceW Try.underlying22 (by kernel_rfl) rw_clause
theorem rw_program : ReadsW Try.prog 24 (List Clause) := reads_structW Try.underlying24 (by kernel_rfl) (readsF_oneW rw_clauses (by kernel_rfl) (by kernel_rfl))
theorem rw_atoms : ReadsW Try.prog 25 (List Atom) := reads_sliceW Try.underlying25 (by kernel_rfl) rw_atom
theorem sizB_of {s : List UInt8} (h : Txt.tx s) : SizB s := Nat.le_trans h (by decide)
theorem atB_of {a : Atom} (h : Txt.tx a) : AtB a := ⟨sizB_of h.1, fun t ht => sizB_of (h.2.1 t ht).2.2.1⟩
theorem ltB_of {x : Literal} (h : Txt.tx x) : LtB x := ⟨atB_of h.2.1, sizB_of h.2.2.2.1.2.2.1, sizB_of h.2.2.2.2.1.2.2.1⟩
theorem clB_of {c : Clause} (h : Txt.tx c) : ClB c := ⟨atB_of h.1, fun x hx => ltB_of (h.2 x hx)⟩
/- The table of powers has twenty numbers, whichever. -/
set_option maxRecDepth 100000 in
set_option linter.constructorNameAsVariable false in
theorem powT_of {W : World} (h : W.ShapedOpen Try.prog) : PowT (hsz W.heap) W.heap := by
  obtain ⟨cs, hh, hs, hr⟩ := h.1 0 (Array.replicate 20 (.int .u64 0)) 214 (of_decide_eq_true (by kernel_rfl)) (by kernel_rfl)
  have hz : hsz W.heap 0 = 20 := by
    unfold hsz
    rw [hh]
    exact hs.trans Array.size_replicate
  have hl : 0 < W.heap.size := (Array.getElem?_eq_some_iff.1 hh).1
  refine ⟨hl, hz, by rw [hz]; exact Nat.le_refl _, fun i hi => ?_⟩
  obtain ⟨ts, hts, _, hall⟩ := hr (by kernel_rfl)
  have hct : Try.prog.cellTypes Try.prog.depth 214 = some (List.replicate 20 207) := by kernel_rfl
  rw [hct] at hts
  have hts := Option.some.inj hts
  subst hts
  have h1 : i < cs.size := by rw [hs, Array.size_replicate]; exact hi
  obtain ⟨u, hu', hok⟩ := hall i cs[i] (Array.getElem?_eq_getElem h1)
  have hu : u = 207 := by
    rw [List.length_replicate, Nat.mod_eq_of_lt hi, List.getElem?_replicate, if_pos hi] at hu'
    exact (Option.some.inj hu').symm
  subst hu
  unfold Cell.ok at hok
  rw [show Try.prog.underlying 207 = some (.int .u64) from Try.underlying207] at hok
  have hv : Go.Ev.hv W.heap 0 i = cs[i] := by
    unfold Go.Ev.hv hc
    rw [hh]
    simp [h1]
  rw [hv]
  cases hc : cs[i] <;> rw [hc] at hok <;> simp at hok
  case int k' n => exact ⟨n, by rw [hok.1]⟩
end Go.Proofs.Ytkobamedfbgjbaa
