/- Proved: the statement Rows.CoreBuildsSaid (edict/edictlaw07.CoreBuilds): whatever the input, the law returns true and leaves its arguments as they were; no further conditions. -/
import Derived.Test.YtmjinnbdnpedcaaGreatKbP
import Derived.Test.YtmjinnbdnpedcaaGreatCcB
namespace Go.Proofs.YtmjinnbdnpedcaaGreat.coreBuilds
open Go Go.Ev Edict Go.ChangeShapes Go.WideShapes Go.ChangeAt Go.RowKit

theorem own : ownKnob Tryz.prog.godebug = none := by kernel_rfl
theorem laid : laidOutB Tryz.prog = true := by kernel_rfl
set_option maxRecDepth 100000 in
theorem contract (H : Type) (enc : TypeId × Value → H) (W : World) (base : Nat) (args : Array Value) (ds gs : List (DataW H)) (before : List MemPlace)
  (hval : ∀ (j : Nat) t v, Tryz.f3.params[j]? = some t → args[j]? = some v → Value.okWide Tryz.prog W .any base t v)
  (hW : DataW.Whole enc Tryz.prog Tryz.f3.params.toList Rows.coreBuildsSpec.vars false W args.toList ds gs before)
  (hwt : (DataW.weightsEach Tryz.prog (Tryz.f3.params.toList ++ Rows.coreBuildsSpec.plain.varTypes Tryz.prog) (ds ++ gs)).all (· ≤ reachBytes) = true) (hsh : W.ShapedOpen Tryz.prog) :
  Calls Tryz.prog 3 args W fun e W' => ∃ v, e = .returned v ∧ Rows.coreBuildsSpec.post enc Tryz.prog Tryz.f3 false true false false W args v W' := by
 have hW' := hW
 obtain ⟨p, q, hA, hV, rfl, hfz, hnd⟩ := hW
 rw [Tryz.params3] at hA hval hwt
 obtain ⟨v0, vs0, d0, ds0, p0, q0, hargs, rfl, rfl, ⟨m0, h0⟩, r0⟩ := trodAll_cons hA
 obtain ⟨v1, vs1, d1, ds1, p1, q1, rfl, rfl, rfl, ⟨m1, h1⟩, r1⟩ := trodAll_cons r0
 obtain ⟨rfl, rfl, rfl⟩ := trodAll_nil r1
 obtain rfl : args = #[v0, v1] := by cases args; simp_all
 obtain ⟨rfl, rfl⟩ := trodVars_none hV
 obtain ⟨cs0, rfl, -⟩ := okWide_struct Tryz.underlying24 (hval 0 24 v0 rfl rfl)
 obtain ⟨a1, n1, c1, rfl⟩ := okWide_slice Tryz.underlying25 (hval 1 25 v1 rfl rfl)
 obtain ⟨prog, k1, k2, -⟩ := rp_program enc W m0 _ _ h0
 obtain ⟨facts, l1, l2, -⟩ := rp_atoms enc W m1 _ _ h1
 rw [rep_list] at l1 k1
 obtain ⟨w, l1, hl⟩ := l1
 obtain rfl : Value.slice a1 n1 c1 = w := by simpa [Value.cells] using l1
 obtain ⟨v, e0, i0⟩ := k1
 have e1 : cs0 = #[v] := by
  apply Array.toList_inj.1
  simpa [Value.cells] using e0
 subst e1
 have main := (CoreBuilds_hc (h := W.heap) i0 hl k2 l2 (powT_of hsh)).hc (by kernel_rfl) W rfl
 refine main.mono fun e W' ⟨hkeep, he⟩ => ?_
 cases e with
 | returned v =>
  obtain ⟨rfl, hx⟩ := he
  exact ⟨_, rfl, law_post laid (by kernel_rfl) Tryz.underlying4 (by rw [Tryz.params3]; decide +kernel) hW' rfl rfl hkeep hx⟩
 | _ => exact he.elim

set_option maxRecDepth 100000 in
theorem lifted (os : Os) (started : os.Started) (H : Type) (enc : TypeId × Value → H) :
  ReturnsInHanded {} Tryz.checked os 3 .any (Rows.coreBuildsSpec.pre6 enc Tryz.prog Tryz.f3 Rows.coreBuildsRow.domain false) (Rows.coreBuildsSpec.post enc Tryz.prog Tryz.f3 false true false false) := by
 refine returnsInHanded_of_change_shaped (C := Tryz.checked) own started (by kernel_rfl) Tryz.func3
  (ChangeSpec.witness6 (enc := enc) (C := Tryz.checked) false ⟨#[], #[.agg #[.slice none 0 0], .slice none 0 0], []⟩ 8 (by kernel_rfl) (by kernel_rfl) (by kernel_rfl) (by kernel_rfl)) ?_
 intro W base args ds gs before hval hW _ hwt hsh _
 exact contract H enc W base args ds gs before hval hW hwt hsh

theorem proved : Rows.CoreBuildsSaid :=
 OpenClaim.holds_of_wide 3 Tryz.f3 rfl rfl rfl rfl rfl rfl rfl ⟨rfl, rfl, rfl, rfl, rfl⟩ rfl rfl rfl rfl rfl (by kernel_rfl) Tryz.func3 (by kernel_rfl)
  (of_decide_eq_true (by kernel_rfl)) (by unfold Func.isWrapper; first | (rw [if_pos (by decide +kernel)]; kernel_rfl) | (rw [if_neg (by decide +kernel)]; exact ⟨rfl, rfl⟩))
  (fun os started H enc _ => lifted os started H enc)
#print axioms proved
end Go.Proofs.YtmjinnbdnpedcaaGreat.coreBuilds
