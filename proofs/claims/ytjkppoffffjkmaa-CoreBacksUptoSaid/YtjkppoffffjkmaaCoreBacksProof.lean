/- Proved: the statement Rows.CoreBacksUptoSaid (edict/edictlaw07.CoreBacks): the law returns true and leaves its arguments as they were; the condition is the given one, that what it reads is of bulk at most 1048576. -/
import Derived.Test.YtjkppoffffjkmaaRdCore
import Derived.Test.YtjkppoffffjkmaaBackL
namespace Go.Proofs.Ytjkppoffffjkmaa.coreBacks
open Go Go.Ev Edict Go.ChangeShapes Go.WideShapes Go.ChangeAt Go.RowKit

theorem own : ownKnob Try.prog.godebug = none := by kernel_rfl
theorem laid : laidOutB Try.prog = true := by kernel_rfl
theorem contract (H : Type) (enc : TypeId × Value → H) (W : World) (base : Nat) (args : Array Value) (ds gs : List (DataW H)) (before : List MemPlace)
    (hval : ∀ (j : Nat) t v, Try.f3.params[j]? = some t → args[j]? = some v → Value.okWide Try.prog W .any base t v)
    (hW : DataW.Whole enc Try.prog Try.f3.params.toList Rows.coreBacksSpec.vars false W args.toList ds gs before) (hk : Rows.uptoSmall H (ds ++ gs) = true) :
    Calls Try.prog 3 args W fun e W' => ∃ v, e = .returned v ∧ Rows.coreBacksSpec.post enc Try.prog Try.f3 false true false false W args v W' := by
  have hW' := hW
  obtain ⟨p, q, hA, hV, rfl, hfz, hnd⟩ := hW
  rw [Try.params3] at hA hval
  obtain ⟨v0, vs0, d0, ds0, p0, q0, hargs, rfl, rfl, ⟨m0, h0⟩, r0⟩ := trodAll_cons hA
  obtain ⟨v1, vs1, d1, ds1, p1, q1, rfl, rfl, rfl, ⟨m1, h1⟩, r1⟩ := trodAll_cons r0
  obtain ⟨rfl, rfl, rfl⟩ := trodAll_nil r1
  obtain rfl : args = #[v0, v1] := by cases args; simp_all
  obtain ⟨rfl, rfl⟩ := trodVars_none hV
  obtain ⟨cs0, rfl, -⟩ := okWide_struct Try.underlying27 (hval 0 27 v0 rfl rfl)
  obtain ⟨a1, n1, c1, rfl⟩ := okWide_slice Try.underlying25 (hval 1 25 v1 rfl rfl)
  obtain ⟨core, k1, -, k3⟩ := rd_core enc W m0 _ _ h0
  obtain ⟨rows, l1, -, l3⟩ := rd_rows enc W m1 _ _ h1
  have hb : Rows.uptoBulkAll ([d0, d1] ++ []) ≤ 1048576 := of_decide_eq_true hk
  simp only [List.append_nil, Rows.uptoBulkAll] at hb
  simp only at k3 l3
  rw [rep_list] at l1
  obtain ⟨w, l1, hl⟩ := l1
  obtain rfl : Value.slice a1 n1 c1 = w := by simpa [Value.cells] using l1
  simp only [rep_prod, rep_list] at k1
  obtain ⟨x0, y0, e0, ⟨w0, rfl, i0⟩, x1, y1, rfl, ⟨w1, rfl, i1⟩, x2, y2, rfl, ⟨w2, rfl, i2⟩, w3, rfl, i3⟩ := k1
  have e1 : cs0 = #[w0, w1, w2, w3] := by
    apply Array.toList_inj.1
    simpa [Value.cells] using e0
  subst e1
  simp only [bulk_prod, bulk_list] at k3 l3
  have main := (CoreBacks_hc (h := W.heap) (c3 := w3) i0 i1 i2 hl (by omega) (by omega)).hc (by kernel_rfl) W rfl
  refine main.mono fun e W' ⟨hkeep, he⟩ => ?_
  cases e with
  | returned v =>
    obtain ⟨rfl, hx⟩ := he
    exact ⟨_, rfl, law_post laid (by kernel_rfl) Try.underlying4 (by rw [Try.params3]; decide +kernel) hW' rfl rfl (grown_of hkeep hx) hx⟩
  | _ => exact he.elim

set_option maxRecDepth 100000 in
theorem lifted (os : Os) (started : os.Started) (H : Type) (enc : TypeId × Value → H) (F : Stop.Interp) :
    ReturnsInHanded {} Try.checked os 3 .any ((Rows.OpenSpec.upto Rows.coreBacksSpec).pre6 enc Try.prog Try.f3 Rows.coreBacksUptoRow.domain false) (((Rows.OpenSpec.upto Rows.coreBacksSpec).at F).post enc Try.prog Try.f3 false true false false) := by
  refine returnsInHanded_of_cond (C := Try.checked) (s := Rows.OpenSpec.upto Rows.coreBacksSpec) (k := Rows.uptoSmall) rfl own started (by kernel_rfl) Try.func3
    (OpenSpec.witness (enc := enc) (C := Try.checked) (s := Rows.OpenSpec.upto Rows.coreBacksSpec) (k := Rows.uptoSmall) rfl false ⟨#[], #[.agg #[.slice none 0 0, .slice none 0 0, .slice none 0 0, .slice none 0 0], .slice none 0 0], []⟩ 8 (by kernel_rfl) (by kernel_rfl) (by kernel_rfl)
      (x := ([.agg [.nil, .nil, .nil, .nil], .nil], [], [])) (by kernel_rfl) rfl (by kernel_rfl)) ?_
  intro W base args ds gs before hval hW _ hk _
  exact contract H enc W base args ds gs before hval hW hk

/-- The statement. -/
theorem proved : Rows.CoreBacksUptoSaid :=
  OpenClaim.holds_of_cond 3 Try.f3 rfl rfl rfl rfl rfl rfl rfl ⟨rfl, rfl, rfl, rfl, rfl⟩ rfl rfl rfl rfl rfl (by kernel_rfl) Try.func3 (by kernel_rfl)
    (of_decide_eq_true (by kernel_rfl)) (by unfold Func.isWrapper; first | (rw [if_pos (by decide +kernel)]; kernel_rfl) | (rw [if_neg (by decide +kernel)]; exact ⟨rfl, rfl⟩))
    (fun os started H enc _ F => lifted os started H enc F)
#print axioms proved
end Go.Proofs.Ytjkppoffffjkmaa.coreBacks
