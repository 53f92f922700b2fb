/- What the listed table of powers of ten holds, out of the row's list. -/
import Derived.Test.YteiopegaiohglaaDoorLexC
import Derived.Test.YteiopegaiohglaaDoorFmtI
import Derived.Lib.LaidTab
namespace Go.Proofs.YteiopegaiohglaaDoor
open Go Go.Ev Edict Go.ChangeShapes Go.WideShapes Go.ChangeAt Go.RowKit
set_option maxRecDepth 100000 in
theorem globP {W : World} (h : laidMetH Tryd.prog Rows.printGivenRow.laid W) : PowG (hsz W.heap) W.heap := by
  rw [MakeChecks.laidMetH_plain _ _ _ (by kernel_rfl)] at h
  obtain ⟨g, t, cs, fuel, p, q1, q2, q3, q4⟩ := Lib.laidMet.reads h (n := "internal/strconv.uint64pow10") (d := Rows.laid_internal_strconv_uint64pow10) (by simp [Rows.printGivenRow])
  obtain rfl : 3 = g := Option.some.inj ((show Tryd.prog.globalNamed "internal/strconv.uint64pow10" = some 3 by kernel_rfl).symm.trans q1)
  obtain rfl : 147 = t := Option.some.inj ((show (Tryd.prog.globals[3]?).map (·.type) = some 147 by kernel_rfl).symm.trans q2)
  have q4' : DataW.trod (fun _ => ()) Tryd.prog W 0 (fun _ => true) false fuel 147 cs.toList = some (Go.Lib.tabData .u64 Go.Lib.pow10Tab, p) := q4
  have hcs := Go.Lib.cells_of_tab (n := 20) (e := 126) Tryd.underlying147 Tryd.underlying126 (by kernel_rfl) (by kernel_rfl) q4'
  have hlen := Go.Lib.pow10Tab_length
  have hsz0 : cs.size = 20 := by have := congrArg List.length hcs; simpa [hlen] using this
  have hcell : ∀ i, W.cell? ⟨3, i, none⟩ = cs[i]? := fun i => World.var?_cell q1 q3 i
  unfold World.var? at q3
  rw [q1, Option.bind_some] at q3
  have hz : hsz W.heap 3 = 20 := by
    unfold hsz
    cases hx : W.heap[3]? with
    | none => rw [hx] at q3; simp at q3
    | some o =>
      rw [hx] at q3
      cases o with
      | cells cs' t' f' =>
        simp only [Option.some.injEq] at q3
        show cs'.size = 20
        rw [q3]; exact hsz0
      | _ => simp at q3
  have hb : 3 < W.heap.size := by
    apply Decidable.byContradiction; intro q
    unfold hsz at hz
    rw [Array.getElem?_eq_none (by omega)] at hz
    simp at hz
  refine ⟨hb, hz, by rw [hz]; exact Nat.le_refl _, fun i hi => ?_⟩
  have h1 := hcell i
  rw [cell_hc] at h1
  unfold Go.Ev.hv
  rw [h1, ← Array.getElem?_toList, hcs, List.getElem?_map]
  rw [List.getD_eq_getElem?_getD, List.getElem?_eq_getElem (show i < Go.Lib.pow10Tab.length by omega)]
  rfl
end Go.Proofs.YteiopegaiohglaaDoor
