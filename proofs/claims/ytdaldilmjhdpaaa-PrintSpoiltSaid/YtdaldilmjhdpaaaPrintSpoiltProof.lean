/- Proved: the statement Rows.PrintSpoiltSaid (edict/edictlaw04.PrintSpoilt): whatever the input, the law returns true and leaves its arguments as they were; no further conditions. -/
import Derived.Test.YtdaldilmjhdpaaaRdPo
import Derived.Test.YtdaldilmjhdpaaaPoN
namespace Go.Proofs.Ytdaldilmjhdpaaa.printSpoilt
open Go Go.Ev Edict Go.ChangeShapes Go.WideShapes Go.ChangeAt Go.RowKit

theorem own : ownKnob Try.prog.godebug = none := by kernel_rfl
theorem laid : laidOutB Try.prog = true := by kernel_rfl
set_option maxRecDepth 100000 in
theorem contract (H : Type) (enc : TypeId × Value → H) (W : World) (base : Nat) (args : Array Value) (ds gs : List (DataW H)) (before : List MemPlace)
    (hval : ∀ (j : Nat) t v, Try.f3.params[j]? = some t → args[j]? = some v → Value.okWide Try.prog W .any base t v)
    (hW : DataW.Whole enc Try.prog Try.f3.params.toList Rows.printSpoiltSpec.vars false W args.toList ds gs before)
    (hwt : (DataW.weightsEach Try.prog (Try.f3.params.toList ++ Rows.printSpoiltSpec.plain.varTypes Try.prog) (ds ++ gs)).all (· ≤ reachBytes) = true) (hsh : W.ShapedOpen Try.prog) :
    Calls Try.prog 3 args W fun e W' => ∃ v, e = .returned v ∧ Rows.printSpoiltSpec.post enc Try.prog Try.f3 false true false false W args v W' := by
  have hW' := hW
  obtain ⟨p, q, hA, hV, rfl, hfz, hnd⟩ := hW
  rw [Try.params3] at hA hval hwt
  obtain ⟨v0, vs0, d0, ds0, p0, q0, hargs, rfl, rfl, ⟨m0, h0⟩, r0⟩ := trodAll_cons hA
  obtain ⟨v1, vs1, d1, ds1, p1, q1, rfl, rfl, rfl, ⟨m1, h1⟩, r1⟩ := trodAll_cons r0
  obtain ⟨v2, vs2, d2, ds2, p2, q2, rfl, rfl, rfl, ⟨m2, h2⟩, r2⟩ := trodAll_cons r1
  obtain ⟨rfl, rfl, rfl⟩ := trodAll_nil r2
  obtain rfl : args = #[v0, v1, v2] := by cases args; simp_all
  obtain ⟨rfl, rfl⟩ := trodVars_none hV
  obtain ⟨cs0, rfl, -⟩ := okWide_struct Try.underlying24 (hval 0 24 v0 rfl rfl)
  obtain ⟨cs1, rfl, -⟩ := okWide_struct Try.underlying27 (hval 1 27 v1 rfl rfl)
  obtain ⟨n2, rfl, -⟩ := okWide_int Try.underlying3 (hval 2 3 v2 rfl rfl)
  obtain ⟨prog, k1, k2, -⟩ := rp_program enc W m0 _ _ h0
  obtain ⟨hd, l1, l2, -⟩ := rp_atom enc W m1 _ _ h1
  rw [rep_list] at k1
  rw [rep_atom] at l1
  obtain ⟨v, e0, i0⟩ := k1
  obtain ⟨w, e2, i1⟩ := l1
  have e1 : cs0 = #[v] := by
    apply Array.toList_inj.1
    simpa [Value.cells] using e0
  have e3 : cs1 = #[str hd.1, w, .int .i64 hd.2.2] := by
    apply Array.toList_inj.1
    simpa [Value.cells] using e2
  subst e1
  subst e3
  have main := (PrintSpoilt_hc (h := W.heap) (way := n2) i0 i1 k2 l2 (fun c hc => claS_of (k2.2 c hc)) (atomS_of l2) (powT_of hsh)).hc (by kernel_rfl) W rfl
  refine main.mono fun e W' ⟨hkeep, he⟩ => ?_
  cases e with
  | returned v =>
    obtain ⟨rfl, hx⟩ := he
    exact ⟨_, rfl, law_post laid (by kernel_rfl) Try.underlying4 (by rw [Try.params3]; decide +kernel) hW' rfl rfl hkeep hx⟩
  | _ => exact he.elim

set_option maxRecDepth 100000 in
theorem lifted (os : Os) (started : os.Started) (H : Type) (enc : TypeId × Value → H) :
    ReturnsInHanded {} Try.checked os 3 .any (Rows.printSpoiltSpec.pre6 enc Try.prog Try.f3 Rows.printSpoiltRow.domain false) (Rows.printSpoiltSpec.post enc Try.prog Try.f3 false true false false) := by
  refine returnsInHanded_of_change_shaped (C := Try.checked) own started (by kernel_rfl) Try.func3
    (ChangeSpec.witness6 (enc := enc) (C := Try.checked) false ⟨#[], #[.agg #[.slice none 0 0], .agg #[.string ⟨#[]⟩, .slice none 0 0, .int .i64 0], .int .i64 0], []⟩ 8 (by kernel_rfl) (by kernel_rfl) (by kernel_rfl) (by kernel_rfl)) ?_
  intro W base args ds gs before hval hW _ hwt hsh _
  exact contract H enc W base args ds gs before hval hW hwt hsh

/-- The statement. -/
theorem proved : Rows.PrintSpoiltSaid :=
  OpenClaim.holds_of_wide 3 Try.f3 rfl rfl rfl rfl rfl rfl rfl ⟨rfl, rfl, rfl, rfl, rfl⟩ rfl rfl rfl rfl rfl (by kernel_rfl) Try.func3 (by kernel_rfl)
    (of_decide_eq_true (by kernel_rfl)) (by unfold Func.isWrapper; first | (rw [if_pos (by decide +kernel)]; kernel_rfl) | (rw [if_neg (by decide +kernel)]; exact ⟨rfl, rfl⟩))
    (fun os started H enc _ => lifted os started H enc)
#print axioms proved
end Go.Proofs.Ytdaldilmjhdpaaa.printSpoilt
