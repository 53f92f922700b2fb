/- Proved: the statement Rows.ParseLimitsCardSaid (edict/edictlaw03.ParseLimits): whatever the input, the law returns true and leaves its arguments as they were; the condition is the card's own: the listed variables hold what the program's text lays. -/
import Derived.Test.YtmnfhmbmifompaaDoorLexC
import Derived.Test.YtmnfhmbmifompaaDoorPlRd
namespace Go.Proofs.YtmnfhmbmifompaaDoor.parseLimits
open Go Go.Ev Edict Go.ChangeShapes Go.WideShapes Go.ChangeAt Go.RowKit
theorem own : ownKnob Tryd.prog.godebug = none := by kernel_rfl
theorem laid : laidOutB Tryd.prog = true := by kernel_rfl
set_option maxRecDepth 100000 in
theorem contract (H : Type) (enc : TypeId × Value → H) (W : World) (base : Nat) (args : Array Value) (ds gs : List (DataW H)) (before : List MemPlace)
    (hval : ∀ (j : Nat) t v, Tryd.f16.params[j]? = some t → args[j]? = some v → Value.okWide Tryd.prog W .any base t v)
    (hW : DataW.Whole enc Tryd.prog Tryd.f16.params.toList Rows.parseLimitsSpec.vars false W args.toList ds gs before) (hL : laidMetH Tryd.prog Rows.parseOnesRow.laid W) :
    Calls Tryd.prog 16 args W fun e W' => ∃ v, e = .returned v ∧ Rows.parseLimitsSpec.post enc Tryd.prog Tryd.f16 false true false false W args v W' := by
  have hW' := hW
  obtain ⟨p, q, hA, hV, rfl, hfz, hnd⟩ := hW
  rw [Tryd.params16] at hA hval
  obtain ⟨v0, vs0, d0, ds0, p0, q0, hargs, rfl, rfl, ⟨m0, h0⟩, r0⟩ := trodAll_cons hA
  obtain ⟨v1, vs1, d1, ds1, p1, q1, rfl, rfl, rfl, ⟨m1, h1⟩, r1⟩ := trodAll_cons r0
  obtain ⟨v2, vs2, d2, ds2, p2, q2, rfl, rfl, rfl, ⟨m2, h2⟩, r2⟩ := trodAll_cons r1
  obtain ⟨rfl, rfl, rfl⟩ := trodAll_nil r2
  obtain rfl : args = #[v0, v1, v2] := by cases args; simp_all
  obtain ⟨rfl, rfl⟩ := trodVars_none hV
  obtain ⟨n0, e0, w0, -⟩ := reads_int Tryd.underlying3 enc W m0 _ _ h0
  rw [rep_int] at e0
  obtain ⟨z0, rfl⟩ := okWide_int Tryd.underlying3 (hval 0 3 v0 rfl rfl)
  obtain rfl : z0 = n0 := by simpa [Value.cells] using e0
  obtain ⟨n1, e1, w1, -⟩ := reads_int Tryd.underlying3 enc W m1 _ _ h1
  rw [rep_int] at e1
  obtain ⟨z1, rfl⟩ := okWide_int Tryd.underlying3 (hval 1 3 v1 rfl rfl)
  obtain rfl : z1 = n1 := by simpa [Value.cells] using e1
  obtain ⟨n2, e2, -⟩ := reads_bool Tryd.underlying4 enc W m2 _ _ h2
  rw [rep_bool] at e2
  obtain ⟨z2, rfl⟩ := okWide_bool Tryd.underlying4 (hval 2 4 v2 rfl rfl)
  obtain rfl : z2 = n2 := by simpa [Value.cells] using e2
  have main := (ParseLimits_hc (h := W.heap) (bad := z2) w0 w1 (glob hL)).hc (by kernel_rfl) W rfl
  refine main.mono fun e W' ⟨hkeep, he⟩ => ?_
  cases e with
  | returned v =>
    obtain ⟨rfl, hx⟩ := he
    exact ⟨_, rfl, law_post laid (by kernel_rfl) Tryd.underlying4 (by rw [Tryd.params16]; decide +kernel) hW' rfl rfl hkeep hx⟩
  | _ => exact he.elim
noncomputable def w0 (os : Os) : World := World.doorLaid Tryd.prog 400 os
theorem laid_met (os : Os) : laidMet Tryd.prog Rows.parseLimitsRow.laid ((w0 os).forCall (fun _ _ => 0) ⟨#[], #[.int .i64 0, .int .i64 0, .bool false], []⟩).memory :=
  laidMet_of_run' 8 (by kernel_rfl) (by kernel_rfl)
theorem reads (os : Os) {H : Type} (enc : TypeId × Value → H) : ∃ places, DataW.whole enc Tryd.prog ((w0 os).forCall (fun _ _ => 0) ⟨#[], #[.int .i64 0, .int .i64 0, .bool false], []⟩).memory Tryd.f16.params.toList Rows.parseLimitsSpec.vars false #[Value.int .i64 0, Value.int .i64 0, Value.bool false].toList 8 = some ([.lit (.int .i64 0), .lit (.int .i64 0), .lit (.bool false)], [], places) :=
  ⟨[], by kernel_rfl⟩
set_option maxRecDepth 100000 in
theorem lifted (os : Os) (started : os.Started) (H : Type) (enc : TypeId × Value → H) (F : Stop.Interp) :
    ReturnsInHanded {} Tryd.checked os 16 .any ((OpenSpec.ofChange Rows.parseLimitsSpec).preRow enc Tryd.prog Tryd.f16 Rows.parseLimitsRow.domain false Rows.parseLimitsRow.laid) (((OpenSpec.ofChange Rows.parseLimitsSpec).at F).post enc Tryd.prog Tryd.f16 false true false false) := by
  obtain ⟨places, hx⟩ := reads os enc
  refine returnsInHanded_of_row (C := Tryd.checked) (s := OpenSpec.ofChange Rows.parseLimitsSpec) own started (by kernel_rfl) Tryd.func16
    (witness_row_atRef (enc := enc) (C := Tryd.checked) false (w0 os) #[.int .i64 0, .int .i64 0, .bool false] rfl (by kernel_rfl) (by kernel_rfl) (by kernel_rfl)
      (OpenSpec.preRow_of_cond 8 hx (by kernel_rfl) (fun k hk => by cases hk) (by kernel_rfl) (laid_met os))) ?_
  intro W base args ds gs before hval hW _ _ hwt hL _ _
  exact contract H enc W base args ds gs before hval hW hL
theorem said : Rows.ParseLimitsSaid :=
  OpenClaim.holds_of_cond 16 Tryd.f16 rfl rfl rfl rfl rfl rfl rfl ⟨rfl, rfl, rfl, rfl, rfl⟩ rfl rfl rfl rfl rfl (by kernel_rfl) Tryd.func16 (by kernel_rfl)
    (of_decide_eq_true (by kernel_rfl)) (by unfold Func.isWrapper; first | (rw [if_pos (by decide +kernel)]; kernel_rfl) | (rw [if_neg (by decide +kernel)]; exact ⟨rfl, rfl⟩))
    (fun os started H enc _ F => by rw [OpenClaim.pre_eq_preRow]; exact lifted os started H enc F)
theorem plain (f : FuncId) (fn : Func) (hf : Tryd.pinned.checked.prog.funcNamed "edict/edictlaw03.ParseLimits" = some f) (hfn : Tryd.pinned.checked.prog.funcs[f]? = some fn) :
    true = Tryd.pinned.checked.prog.looks [] ∧ ∀ (j : Nat) t, fn.params[j]? = some t → Tryd.pinned.checked.prog.wantsStandIn t = false := by
  obtain rfl : f = 16 := Option.some.inj ((show Tryd.prog.funcNamed "edict/edictlaw03.ParseLimits" = some 16 by kernel_rfl).symm.trans hf) |>.symm
  obtain rfl : fn = Tryd.f16 := (Option.some.inj (Tryd.func16.symm.trans hfn)).symm
  refine ⟨by kernel_rfl, fun j t ht => ?_⟩
  rw [Tryd.params16] at ht
  have hm : t ∈ [3, 3, 4] := by simpa using Array.mem_of_getElem? ht
  have hall : ([3, 3, 4].all fun u => !Tryd.prog.wantsStandIn u) = true := by kernel_rfl
  exact (show Tryd.prog.wantsStandIn t = false by simpa using List.all_eq_true.1 hall t hm)
/-- The card. -/
theorem proved : Rows.ParseLimitsCardSaid :=
  Claim7.holds_tied_plain_at .later [] _ _ _ _ said (fun _ h => by cases h) (by kernel_rfl) (fun _ h => by cases h) parseLimits_row_tie rfl ⟨rfl, rfl⟩ (by kernel_rfl) rfl plain (by kernel_rfl)
#print axioms proved
end Go.Proofs.YtmnfhmbmifompaaDoor.parseLimits
