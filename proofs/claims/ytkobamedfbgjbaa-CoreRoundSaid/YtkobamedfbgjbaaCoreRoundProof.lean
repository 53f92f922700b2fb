/- Proved: the statement Rows.CoreRoundSaid (edict/edictlaw07.CoreRound): whatever the input, the law returns true and leaves its arguments as they were; no further conditions. -/
import Derived.Test.YtkobamedfbgjbaaRdK
import Derived.Test.YtkobamedfbgjbaaKyE
namespace Go.Proofs.Ytkobamedfbgjbaa.coreRound
open Go Go.Ev Edict Go.ChangeShapes Go.WideShapes Go.ChangeAt Go.RowKit

theorem own : ownKnob Try.prog.godebug = none := by kernel_rfl
theorem laid : laidOutB Try.prog = true := by kernel_rfl
set_option maxRecDepth 100000 in
theorem contract (H : Type) (enc : TypeId × Value → H) (W : World) (base : Nat) (args : Array Value) (ds gs : List (DataW H)) (before : List MemPlace)
    (hval : ∀ (j : Nat) t v, Try.f6.params[j]? = some t → args[j]? = some v → Value.okWide Try.prog W .any base t v)
    (hW : DataW.Whole enc Try.prog Try.f6.params.toList Rows.coreRoundSpec.vars false W args.toList ds gs before)
    (hwt : (DataW.weightsEach Try.prog (Try.f6.params.toList ++ Rows.coreRoundSpec.plain.varTypes Try.prog) (ds ++ gs)).all (· ≤ reachBytes) = true) (hsh : W.ShapedOpen Try.prog) :
    Calls Try.prog 6 args W fun e W' => ∃ v, e = .returned v ∧ Rows.coreRoundSpec.post enc Try.prog Try.f6 false true false false W args v W' := by
  have hW' := hW
  obtain ⟨p, q, hA, hV, rfl, hfz, hnd⟩ := hW
  rw [Try.params6] at hA hval hwt
  obtain ⟨v0, vs0, d0, ds0, p0, q0, hargs, rfl, rfl, ⟨m0, h0⟩, r0⟩ := trodAll_cons hA
  obtain ⟨v1, vs1, d1, ds1, p1, q1, rfl, rfl, rfl, ⟨m1, h1⟩, r1⟩ := trodAll_cons r0
  obtain ⟨rfl, rfl, rfl⟩ := trodAll_nil r1
  obtain rfl : args = #[v0, v1] := by cases args; simp_all
  obtain ⟨rfl, rfl⟩ := trodVars_none hV
  obtain ⟨cs0, rfl, -⟩ := okWide_struct Try.underlying24 (hval 0 24 v0 rfl rfl)
  obtain ⟨a1, n1, c1, rfl⟩ := okWide_slice Try.underlying25 (hval 1 25 v1 rfl rfl)
  obtain ⟨prog, k1, k2, -, k4⟩ := rw_program enc W m0 _ _ h0
  obtain ⟨facts, l1, l2, -, l4⟩ := rw_atoms enc W m1 _ _ h1
  rw [List.all_eq_true] at hwt
  have hw0 : ∀ n ∈ d0.weights Try.prog 24, n ≤ reachBytes := fun n hn => of_decide_eq_true (hwt n (by
    show n ∈ d0.weights _ _ ++ _
    exact List.mem_append.2 (.inl hn)))
  have hw1 : ∀ n ∈ d1.weights Try.prog 25, n ≤ reachBytes := fun n hn => of_decide_eq_true (hwt n (by
    show n ∈ d0.weights _ _ ++ (d1.weights _ _ ++ _)
    exact List.mem_append.2 (.inr (List.mem_append.2 (.inl hn)))))
  have tx0 := k4 hw0
  have tx1 := l4 hw1
  rw [rep_list] at l1 k1
  obtain ⟨w, l1, hl⟩ := l1
  obtain rfl : Value.slice a1 n1 c1 = w := by simpa [Value.cells] using l1
  obtain ⟨v, e0, i0⟩ := k1
  have e1 : cs0 = #[v] := by
    apply Array.toList_inj.1
    simpa [Value.cells] using e0
  subst e1
  have main := (CoreRound_hc (h := W.heap) i0 hl k2 l2 (fun c hc => clB_of (tx0 c hc)) (fun a ha => atB_of (tx1 a ha)) (powT_of hsh)).hc (by kernel_rfl) W rfl
  refine main.mono fun e W' ⟨hkeep, he⟩ => ?_
  cases e with
  | returned v =>
    obtain ⟨rfl, hx⟩ := he
    exact ⟨_, rfl, law_post laid (by kernel_rfl) Try.underlying4 (by rw [Try.params6]; decide +kernel) hW' rfl rfl hkeep hx⟩
  | _ => exact he.elim

set_option maxRecDepth 100000 in
theorem lifted (os : Os) (started : os.Started) (H : Type) (enc : TypeId × Value → H) :
    ReturnsInHanded {} Try.checked os 6 .any (Rows.coreRoundSpec.pre6 enc Try.prog Try.f6 Rows.coreRoundRow.domain false) (Rows.coreRoundSpec.post enc Try.prog Try.f6 false true false false) := by
  refine returnsInHanded_of_change_shaped (C := Try.checked) own started (by kernel_rfl) Try.func6
    (ChangeSpec.witness6 (enc := enc) (C := Try.checked) false ⟨#[], #[.agg #[.slice none 0 0], .slice none 0 0], []⟩ 8 (by kernel_rfl) (by kernel_rfl) (by kernel_rfl) (by kernel_rfl)) ?_
  intro W base args ds gs before hval hW _ hwt hsh _
  exact contract H enc W base args ds gs before hval hW hwt hsh

theorem proved : Rows.CoreRoundSaid :=
  OpenClaim.holds_of_wide 6 Try.f6 rfl rfl rfl rfl rfl rfl rfl ⟨rfl, rfl, rfl, rfl, rfl⟩ rfl rfl rfl rfl rfl (by kernel_rfl) Try.func6 (by kernel_rfl)
    (of_decide_eq_true (by kernel_rfl)) (by unfold Func.isWrapper; first | (rw [if_pos (by decide +kernel)]; kernel_rfl) | (rw [if_neg (by decide +kernel)]; exact ⟨rfl, rfl⟩))
    (fun os started H enc _ => lifted os started H enc)
#print axioms proved
end Go.Proofs.Ytkobamedfbgjbaa.coreRound
