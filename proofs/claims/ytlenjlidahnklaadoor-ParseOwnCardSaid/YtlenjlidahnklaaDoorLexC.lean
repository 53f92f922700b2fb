/- What the listed variables hold, out of the row's list; a world that fits. -/
import Derived.Test.YtlenjlidahnklaaDoorCards
import Derived.Test.YtlenjlidahnklaaDoorTie
import Derived.Test.YtlenjlidahnklaaDoorRead
import Derived.Test.YtlenjlidahnklaaDoorLexX
import Derived.Deep.DeepHandedRow
import Derived.Deep.DeepWitnessRowRef
import Derived.LaidMore
import Derived.LaidHandle
import Derived.MakeChecks
import Derived.Lib.LaidU8
namespace Go.Proofs.YtlenjlidahnklaaDoor
open Go Go.Ev Edict Go.ChangeShapes Go.WideShapes Go.ChangeAt Go.RowKit
theorem rd_sg : Reads Tryd.prog 115 Sg :=
  reads_struct Tryd.underlying115 (by kernel_rfl) (readsF_cons (reads_str Tryd.underlying9) (by kernel_rfl) (by kernel_rfl) (readsF_cons (reads_int Tryd.underlying3) (by kernel_rfl) (by kernel_rfl) (readsF_one (reads_int Tryd.underlying3) (by kernel_rfl) (by kernel_rfl))))
theorem rd_sgs : Reads Tryd.prog 113 (List Sg) := reads_slice Tryd.underlying113 (by kernel_rfl) rd_sg
def datS {H : Type} (x : Sg) : DataW H := .agg [.lit (.string x.1), .lit (.int .i64 x.2.1), .lit (.int .i64 x.2.2)]
set_option maxRecDepth 100000 in
theorem sg_dat {H : Type} (enc : TypeId × Value → H) (w : World) {hd : Bool} (fuel : Nat) (cs : List Value) (x : Sg) (p : List MemPlace) (h : DataW.trod enc Tryd.prog w 0 (fun _ => true) hd fuel 115 cs = some (datS x, p)) :
    cs = [str x.1, .int .i64 x.2.1, .int .i64 x.2.2] := by
  obtain ⟨xs, n, rfl, hx, hl, hxl, hall⟩ := DataW.trod_struct Tryd.underlying115 h
  have c1 : Tryd.prog.cellsOf 115 = 3 := by kernel_rfl
  have c2 : Tryd.prog.cellsOf 9 = 1 := by kernel_rfl
  have c3 : Tryd.prog.cellsOf 3 = 1 := by kernel_rfl
  rw [c1] at hl
  match cs, hl with
  | [a, b, c], _ =>
    match xs, hxl with
    | [y0, y1, y2], _ =>
      have h0 : DataW.trod enc Tryd.prog w 0 (fun _ => true) hd n 9 (List.take (Tryd.prog.cellsOf 9) [a, b, c]) = some y0 := hall 0 _ rfl
      have h1 : DataW.trod enc Tryd.prog w 0 (fun _ => true) hd n 3 (List.take (Tryd.prog.cellsOf 3) [b, c]) = some y1 := hall 1 _ rfl
      have h2 : DataW.trod enc Tryd.prog w 0 (fun _ => true) hd n 3 (List.take (Tryd.prog.cellsOf 3) [c]) = some y2 := hall 2 _ rfl
      rw [c2] at h0
      rw [c3] at h1 h2
      obtain ⟨s, e0, f0, -⟩ := DataW.trod_string Tryd.underlying9 h0
      obtain ⟨m, e1, f1, -⟩ := DataW.trod_int Tryd.underlying3 h1
      obtain ⟨k, e2, f2, -⟩ := DataW.trod_int Tryd.underlying3 h2
      have e0 : a = .string s := by simpa using e0
      have e1 : b = .int .i64 m := by simpa using e1
      have e2 : c = .int .i64 k := by simpa using e2
      subst e0 e1 e2 f0 f1 f2
      simp only [datS, Prod.mk.injEq, DataW.agg.injEq, List.map_cons, List.map_nil, List.cons.injEq, DataW.lit.injEq, Lit.string.injEq, Lit.int.injEq, true_and, and_true] at hx
      obtain ⟨⟨g0, g1, g2⟩, -⟩ := hx
      rw [g0, g1, g2, str_of]
set_option maxRecDepth 100000 in
theorem glob {W : World} (h : laidMetH Tryd.prog Rows.parseOwnRow.laid W) : LxG (hsz W.heap) W.heap := by
  rw [MakeChecks.laidMetH_plain _ _ _ (by kernel_rfl)] at h
  refine ⟨?_, ?_⟩
  · obtain ⟨g, t, cs, fuel, p, q1, q2, q3, q4⟩ := Lib.laidMet.reads h (n := "edict/lex.signs") (d := Rows.laid_edict_lex_signs) (by simp [Rows.parseOwnRow])
    obtain rfl : 0 = g := Option.some.inj ((show Tryd.prog.globalNamed "edict/lex.signs" = some 0 by kernel_rfl).symm.trans q1)
    obtain rfl : 113 = t := Option.some.inj ((show (Tryd.prog.globals[0]?).map (·.type) = some 113 by kernel_rfl).symm.trans q2)
    have hcell : ∀ i, W.cell? ⟨0, i, none⟩ = cs[i]? := fun i => World.var?_cell q1 q3 i
    obtain ⟨l, ⟨v, hv, hl⟩, -, -⟩ := rd_sgs (fun _ => ()) W fuel cs.toList _ q4
    have hc0 : hc W.heap 0 0 = some v := by
      rw [← cell_hc, hcell, ← Array.getElem?_toList, hv]; rfl
    have hz : 1 ≤ hsz W.heap 0 := by
      unfold hc at hc0; unfold hsz
      cases hx : W.heap[0]? with
      | none => simp [hx] at hc0
      | some o => cases o <;> simp only [hx] at hc0 ⊢ <;> first | exact (Array.getElem?_eq_some_iff.1 hc0).1 | cases hc0
    have hb : 0 < W.heap.size := by
      unfold hsz at hz
      cases hx : W.heap[0]? with
      | none => simp [hx] at hz
      | some o => exact (Array.getElem?_eq_some_iff.1 hx).1
    have hvv : Go.Ev.hv W.heap 0 0 = v := by unfold Go.Ev.hv; rw [hc0]; rfl
    refine ⟨hb, hz, hz, ?_⟩
    rw [hvv]
    -- the list is the one that is written down
    have hll : l = signsL := by
      rcases Go.Deep.open_slice Tryd.underlying113 q4 with ⟨-, e⟩ | ⟨a, len, cap, m, n, D, Pl, hcs, -, hlc, hcm, hm, hx, hel⟩
      · cases e
      · simp only [if_true] at hm
        subst hm
        have c1 : Tryd.prog.cellsOf 115 = 3 := by kernel_rfl
        rw [c1] at hel
        have hx1 := congrArg Prod.fst hx
        have hlist : ((List.range len).map D : List (DataW Unit)) = signsL.map datS := by
          have e2 : (Rows.laid_edict_lex_signs : DataW Unit) = .slice (signsL.map datS) [] := rfl
          rw [e2] at hx1
          simp only [DataW.slice.injEq] at hx1
          exact hx1.1.symm
        have hlen : len = signsL.length := by
          have := congrArg List.length hlist
          simpa using this
        rw [hv] at hcs
        simp only [List.cons.injEq, and_true] at hcs
        obtain ⟨va, vc, hve, -, -⟩ := hl.sl
        rw [hcs] at hve
        simp only [Value.slice.injEq] at hve
        obtain ⟨ha, hln, hcc⟩ := hve
        apply List.ext_getElem?
        intro i
        by_cases hi : i < len
        · obtain ⟨x, hlx⟩ : ∃ x, l[i]? = some x := ⟨l[i]'(by omega), List.getElem?_eq_getElem (by omega)⟩
          obtain ⟨y, hy⟩ : ∃ y, signsL[i]? = some y := ⟨signsL[i]'(by omega), List.getElem?_eq_getElem (by omega)⟩
          obtain ⟨cs', hcs', htr⟩ := hel i (by omega)
          have hD : D i = datS y := by
            have := congrArg (·[i]?) hlist
            simp only [List.getElem?_map, hy, Option.map_some] at this
            rw [List.getElem?_range hi] at this
            simpa using this
          rw [hD] at htr
          have hcs2 := sg_dat _ _ _ _ _ _ htr
          rw [hcs] at hl
          obtain ⟨pb, po, hae, hpb, hpu, hpz, hpr⟩ := hl.row i x hlx
          rw [rep_sg, sz_sg] at hpr
          obtain ⟨-, -, h4⟩ := World.cells?_some hcs'
          cases hae
          have hcell2 : ∀ j, j < 3 → Go.Ev.hv W.heap pb (po + i * 3 + j) = cs'.getD j undef := fun j hj => by
            have h5 := h4 j hj
            rw [Addr.add_lit, Addr.add_lit, cell_hc] at h5
            unfold Go.Ev.hv
            rw [h5, List.getD_eq_getElem?_getD]
          have hrow : hvs W.heap pb (po + i * 3) 3 = cs' := hvs_rows hcell2 (by rw [hcs2]; rfl)
          rw [hrow, hcs2] at hpr
          simp only [List.cons.injEq, Value.int.injEq, true_and, and_true] at hpr
          obtain ⟨w1, w2, w3⟩ := hpr
          rw [hlx, hy]
          exact congrArg some (Prod.ext (str_inj' w1).symm (Prod.ext w2.symm w3.symm))
        · rw [List.getElem?_eq_none (by omega), List.getElem?_eq_none (by omega)]
    rw [← hll]; exact hl
  · obtain ⟨g, t, cs, fuel, p, q1, q2, q3, q4⟩ := Lib.laidMet.reads h (n := "strconv.ErrRange") (d := Rows.laid_strconv_ErrRange) (by simp [Rows.parseOwnRow])
    obtain rfl : 2 = g := Option.some.inj ((show Tryd.prog.globalNamed "strconv.ErrRange" = some 2 by kernel_rfl).symm.trans q1)
    obtain rfl : 118 = t := Option.some.inj ((show (Tryd.prog.globals[2]?).map (·.type) = some 118 by kernel_rfl).symm.trans q2)
    have hcell : ∀ i, W.cell? ⟨2, i, none⟩ = cs[i]? := fun i => World.var?_cell q1 q3 i
    obtain ⟨u, v, hv⟩ : ∃ u v, cs.toList = [.iface u v] := by
      cases fuel with
      | zero => simp [DataW.trod] at q4
      | succ n =>
        unfold DataW.trod at q4
        rw [Tryd.underlying118] at q4
        split at q4
        all_goals first
          | contradiction
          | exact ⟨_, _, by assumption⟩
          | (exfalso; injections; done)
          | (exfalso; exact absurd (congrArg (fun z => z.map (·.1)) q4) (by unfold Rows.laid_strconv_ErrRange; intro q; cases q))
    have hc0 : hc W.heap 2 0 = some (.iface u v) := by
      rw [← cell_hc, hcell, ← Array.getElem?_toList, hv]; rfl
    have hz : 1 ≤ hsz W.heap 2 := by
      unfold hc at hc0; unfold hsz
      cases hx : W.heap[2]? with
      | none => simp [hx] at hc0
      | some o => cases o <;> simp only [hx] at hc0 ⊢ <;> first | exact (Array.getElem?_eq_some_iff.1 hc0).1 | cases hc0
    have hb : 2 < W.heap.size := by
      unfold hsz at hz
      cases hx : W.heap[2]? with
      | none => simp [hx] at hz
      | some o => exact (Array.getElem?_eq_some_iff.1 hx).1
    exact ⟨hb, hz, hz, .inr ⟨u, v, by unfold Go.Ev.hv; rw [hc0]; rfl⟩⟩
end Go.Proofs.YtlenjlidahnklaaDoor
