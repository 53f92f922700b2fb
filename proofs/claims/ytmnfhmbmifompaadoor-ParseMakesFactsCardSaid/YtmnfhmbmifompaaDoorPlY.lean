import Derived.Test.YtmnfhmbmifompaaDoorCards
import Derived.Test.YtmnfhmbmifompaaDoorTie
import Derived.Test.YtmnfhmbmifompaaDoorRead
import Derived.Test.YtmnfhmbmifompaaDoorLexX
import Derived.Deep.DeepHandedRow
import Derived.Deep.DeepWitnessRowRef
import Derived.LaidMore
import Derived.LaidHandle
import Derived.MakeChecks
import Derived.Lib.LaidU8
import Derived.Test.YtmnfhmbmifompaaDoorPsFs
import Derived.Test.YtmnfhmbmifompaaDoorPlS
section Merged
namespace Go.Proofs.YtmnfhmbmifompaaDoor
open Go Go.Ev Edict Go.ChangeShapes Go.WideShapes Go.ChangeAt Go.RowKit
theorem rd_sg : Reads Tryd.prog 178 Sg :=
  reads_struct Tryd.underlying178 (by kernel_rfl) (readsF_cons (reads_str Tryd.underlying9) (by kernel_rfl) (by kernel_rfl) (readsF_cons (reads_int Tryd.underlying3) (by kernel_rfl) (by kernel_rfl) (readsF_one (reads_int Tryd.underlying3) (by kernel_rfl) (by kernel_rfl))))
theorem rd_sgs : Reads Tryd.prog 176 (List Sg) := reads_slice Tryd.underlying176 (by kernel_rfl) rd_sg
def datS {H : Type} (x : Sg) : DataW H := .agg [.lit (.string x.1), .lit (.int .i64 x.2.1), .lit (.int .i64 x.2.2)]
set_option maxRecDepth 100000 in
theorem sg_dat {H : Type} (enc : TypeId × Value → H) (w : World) {hd : Bool} (fuel : Nat) (cs : List Value) (x : Sg) (p : List MemPlace) (h : DataW.trod enc Tryd.prog w 0 (fun _ => true) hd fuel 178 cs = some (datS x, p)) :
    cs = [str x.1, .int .i64 x.2.1, .int .i64 x.2.2] := by
  obtain ⟨xs, n, rfl, hx, hl, hxl, hall⟩ := DataW.trod_struct Tryd.underlying178 h
  have c1 : Tryd.prog.cellsOf 178 = 3 := by kernel_rfl
  have c2 : Tryd.prog.cellsOf 9 = 1 := by kernel_rfl
  have c3 : Tryd.prog.cellsOf 3 = 1 := by kernel_rfl
  rw [c1] at hl
  match cs, hl with
  | [a, b, c], _ =>
    match xs, hxl with
    | [y0, y1, y2], _ =>
      have h0 : DataW.trod enc Tryd.prog w 0 (fun _ => true) hd n 9 (List.take (Tryd.prog.cellsOf 9) [a, b, c]) = some y0 := hall 0 _ rfl
      have h1 : DataW.trod enc Tryd.prog w 0 (fun _ => true) hd n 3 (List.take (Tryd.prog.cellsOf 3) [b, c]) = some y1 := hall 1 _ rfl
      have h2 : DataW.trod enc Tryd.prog w 0 (fun _ => true) hd n 3 (List.take (Tryd.prog.cellsOf 3) [c]) = some y2 := hall 2 _ rfl
      rw [c2] at h0
      rw [c3] at h1 h2
      obtain ⟨s, e0, f0, -⟩ := DataW.trod_string Tryd.underlying9 h0
      obtain ⟨m, e1, f1, -⟩ := DataW.trod_int Tryd.underlying3 h1
      obtain ⟨k, e2, f2, -⟩ := DataW.trod_int Tryd.underlying3 h2
      have e0 : a = .string s := by simpa using e0
      have e1 : b = .int .i64 m := by simpa using e1
      have e2 : c = .int .i64 k := by simpa using e2
      subst e0 e1 e2 f0 f1 f2
      simp only [datS, Prod.mk.injEq, DataW.agg.injEq, List.map_cons, List.map_nil, List.cons.injEq, DataW.lit.injEq, Lit.string.injEq, Lit.int.injEq, true_and, and_true] at hx
      obtain ⟨⟨g0, g1, g2⟩, -⟩ := hx
      rw [g0, g1, g2, str_of]
set_option maxRecDepth 100000 in
theorem glob {W : World} (h : laidMetH Tryd.prog Rows.parseOnesRow.laid W) : LxG (hsz W.heap) W.heap := by
  rw [MakeChecks.laidMetH_plain _ _ _ (by kernel_rfl)] at h
  refine ⟨?_, ?_⟩
  · obtain ⟨g, t, cs, fuel, p, q1, q2, q3, q4⟩ := Lib.laidMet.reads h (n := "edict/lex.signs") (d := Rows.laid_edict_lex_signs) (by simp [Rows.parseOnesRow])
    obtain rfl : 0 = g := Option.some.inj ((show Tryd.prog.globalNamed "edict/lex.signs" = some 0 by kernel_rfl).symm.trans q1)
    obtain rfl : 176 = t := Option.some.inj ((show (Tryd.prog.globals[0]?).map (·.type) = some 176 by kernel_rfl).symm.trans q2)
    have hcell : ∀ i, W.cell? ⟨0, i, none⟩ = cs[i]? := fun i => World.var?_cell q1 q3 i
    obtain ⟨l, ⟨v, hv, hl⟩, -, -⟩ := rd_sgs (fun _ => ()) W fuel cs.toList _ q4
    have hc0 : hc W.heap 0 0 = some v := by
      rw [← cell_hc, hcell, ← Array.getElem?_toList, hv]; rfl
    have hz : 1 ≤ hsz W.heap 0 := by
      unfold hc at hc0; unfold hsz
      cases hx : W.heap[0]? with
      | none => simp [hx] at hc0
      | some o => cases o <;> simp only [hx] at hc0 ⊢ <;> first | exact (Array.getElem?_eq_some_iff.1 hc0).1 | cases hc0
    have hb : 0 < W.heap.size := by
      unfold hsz at hz
      cases hx : W.heap[0]? with
      | none => simp [hx] at hz
      | some o => exact (Array.getElem?_eq_some_iff.1 hx).1
    have hvv : Go.Ev.hv W.heap 0 0 = v := by unfold Go.Ev.hv; rw [hc0]; rfl
    refine ⟨hb, hz, hz, ?_⟩
    rw [hvv]
    -- the list is the one that is written down
    have hll : l = signsL := by
      rcases Go.Deep.open_slice Tryd.underlying176 q4 with ⟨-, e⟩ | ⟨a, len, cap, m, n, D, Pl, hcs, -, hlc, hcm, hm, hx, hel⟩
      · cases e
      · simp only [if_true] at hm
        subst hm
        have c1 : Tryd.prog.cellsOf 178 = 3 := by kernel_rfl
        rw [c1] at hel
        have hx1 := congrArg Prod.fst hx
        have hlist : ((List.range len).map D : List (DataW Unit)) = signsL.map datS := by
          have e2 : (Rows.laid_edict_lex_signs : DataW Unit) = .slice (signsL.map datS) [] := rfl
          rw [e2] at hx1
          simp only [DataW.slice.injEq] at hx1
          exact hx1.1.symm
        have hlen : len = signsL.length := by
          have := congrArg List.length hlist
          simpa using this
        rw [hv] at hcs
        simp only [List.cons.injEq, and_true] at hcs
        obtain ⟨va, vc, hve, -, -⟩ := hl.sl
        rw [hcs] at hve
        simp only [Value.slice.injEq] at hve
        obtain ⟨ha, hln, hcc⟩ := hve
        apply List.ext_getElem?
        intro i
        by_cases hi : i < len
        · obtain ⟨x, hlx⟩ : ∃ x, l[i]? = some x := ⟨l[i]'(by omega), List.getElem?_eq_getElem (by omega)⟩
          obtain ⟨y, hy⟩ : ∃ y, signsL[i]? = some y := ⟨signsL[i]'(by omega), List.getElem?_eq_getElem (by omega)⟩
          obtain ⟨cs', hcs', htr⟩ := hel i (by omega)
          have hD : D i = datS y := by
            have := congrArg (·[i]?) hlist
            simp only [List.getElem?_map, hy, Option.map_some] at this
            rw [List.getElem?_range hi] at this
            simpa using this
          rw [hD] at htr
          have hcs2 := sg_dat _ _ _ _ _ _ htr
          rw [hcs] at hl
          obtain ⟨pb, po, hae, hpb, hpu, hpz, hpr⟩ := hl.row i x hlx
          rw [rep_sg, sz_sg] at hpr
          obtain ⟨-, -, h4⟩ := World.cells?_some hcs'
          cases hae
          have hcell2 : ∀ j, j < 3 → Go.Ev.hv W.heap pb (po + i * 3 + j) = cs'.getD j undef := fun j hj => by
            have h5 := h4 j hj
            rw [Addr.add_lit, Addr.add_lit, cell_hc] at h5
            unfold Go.Ev.hv
            rw [h5, List.getD_eq_getElem?_getD]
          have hrow : hvs W.heap pb (po + i * 3) 3 = cs' := hvs_rows hcell2 (by rw [hcs2]; rfl)
          rw [hrow, hcs2] at hpr
          simp only [List.cons.injEq, Value.int.injEq, true_and, and_true] at hpr
          obtain ⟨w1, w2, w3⟩ := hpr
          rw [hlx, hy]
          exact congrArg some (Prod.ext (str_inj' w1).symm (Prod.ext w2.symm w3.symm))
        · rw [List.getElem?_eq_none (by omega), List.getElem?_eq_none (by omega)]
    rw [← hll]; exact hl
  · obtain ⟨g, t, cs, fuel, p, q1, q2, q3, q4⟩ := Lib.laidMet.reads h (n := "strconv.ErrRange") (d := Rows.laid_strconv_ErrRange) (by simp [Rows.parseOnesRow])
    obtain rfl : 3 = g := Option.some.inj ((show Tryd.prog.globalNamed "strconv.ErrRange" = some 3 by kernel_rfl).symm.trans q1)
    obtain rfl : 183 = t := Option.some.inj ((show (Tryd.prog.globals[3]?).map (·.type) = some 183 by kernel_rfl).symm.trans q2)
    have hcell : ∀ i, W.cell? ⟨3, i, none⟩ = cs[i]? := fun i => World.var?_cell q1 q3 i
    obtain ⟨u, v, hv⟩ : ∃ u v, cs.toList = [.iface u v] := by
      cases fuel with
      | zero => simp [DataW.trod] at q4
      | succ n =>
        unfold DataW.trod at q4
        rw [Tryd.underlying183] at q4
        split at q4
        all_goals first
          | contradiction
          | exact ⟨_, _, by assumption⟩
          | (exfalso; injections; done)
          | (exfalso; exact absurd (congrArg (fun z => z.map (·.1)) q4) (by unfold Rows.laid_strconv_ErrRange; intro q; cases q))
    have hc0 : hc W.heap 3 0 = some (.iface u v) := by
      rw [← cell_hc, hcell, ← Array.getElem?_toList, hv]; rfl
    have hz : 1 ≤ hsz W.heap 3 := by
      unfold hc at hc0; unfold hsz
      cases hx : W.heap[3]? with
      | none => simp [hx] at hc0
      | some o => cases o <;> simp only [hx] at hc0 ⊢ <;> first | exact (Array.getElem?_eq_some_iff.1 hc0).1 | cases hc0
    have hb : 3 < W.heap.size := by
      unfold hsz at hz
      cases hx : W.heap[3]? with
      | none => simp [hx] at hz
      | some o => exact (Array.getElem?_eq_some_iff.1 hx).1
    exact ⟨hb, hz, hz, .inr ⟨u, v, by unfold Go.Ev.hv; rw [hc0]; rfl⟩⟩
end Go.Proofs.YtmnfhmbmifompaaDoor
end Merged
section Merged
namespace Go.Proofs.YtmnfhmbmifompaaDoor
open Go Go.Ev Edict
def C_law1 (vs : List Value) (h : H) (K : Value → H → Prop) : Prop := ∃ (u : U) (s : List UInt8), vs = [str s] ∧ s.length ≤ 9223372036854775807 ∧ LxG u h ∧ ∀ u' h', Step S0 u h u' h' → K (.bool true) h'
def C_sAtom (vs : List Value) (h : H) (K : Value → H → Prop) : Prop := ∃ (u : U) (p : List UInt8) (v w : Value) (l : List TermT) (of : Int), vs = [.agg #[str p, v, .int .i64 of], .agg #[str p, w, .int .i64 of]] ∧ IsSl u h v l ∧ IsSl u h w l ∧ ∀ u' h', Step S0 u h u' h' → K (.bool true) h'
theorem plSameAtom_ok {vs : List Value} {h : H} {K : Value → H → Prop} {KP : List PanicEntry → H → Prop} (hC : C_sAtom vs h K) : HCX Tryd.prog 41 vs h K KP := by
  obtain ⟨u, p, v, w, l, of, rfl, iv, iw, hK⟩ := hC
  obtain ⟨va, vc, rfl, m1, m2⟩ := iv.sl
  obtain ⟨wa, wc, rfl, n1, n2⟩ := iw.sl
  have hm := mlen'
  refine plSameAtom_H (fun _ _ _ _ _ => False) (fun _ _ _ _ _ h => h.elim) _ _ ?_
  have s1 := (Step.push0 S0 u h #[str p, .slice va l.length vc, .int .i64 of] 52).trans0 (Step.push0 S0 _ _ #[str p, .slice wa l.length wc, .int .i64 of] 52)
  have B1 := (Blk.new (u := u) (h := h) [str p, .slice va l.length vc, .int .i64 of] 52).pushR (c := #[str p, .slice wa l.length wc, .int .i64 of]) (t := 52)
  have B2 := Blk.new (u := ub u h.size 0) (h := h.push (.cells #[str p, .slice va l.length vc, .int .i64 of] 52)) [str p, .slice wa l.length wc, .int .i64 of] 52
  have jv := iv.mono s1.ge
  have jw := iw.mono s1.ge
  have hK' := hK _ _ s1
  obtain ⟨h1, hh1⟩ : ∃ h1, h1 = (h.push (.cells #[str p, .slice va l.length vc, .int .i64 of] 52)).push (.cells #[str p, .slice wa l.length wc, .int .i64 of] 52) := ⟨_, rfl⟩
  obtain ⟨u1, hu1⟩ : ∃ u1, u1 = ub (ub u h.size 0) (h.push (.cells #[str p, .slice va l.length vc, .int .i64 of] 52)).size 0 := ⟨_, rfl⟩
  have B2' : Blk u1 h1 (h.size + 1) [str p, .slice wa l.length wc, .int .i64 of] := by rw [hu1, hh1]; simpa using B2
  rw [← hh1, ← hu1] at B1 jv jw
  rw [← hh1] at hK'
  clear B2
  have B11 := B1.1
  have B21 := B2'.1
  simp (disch := first | omega | (simp only [e_ssz, e_psz, e_hszs, List.length_cons, List.length_nil]; try omega; done)) only [↓reduceIte, go_sem, plSameAtom_S, plSameAtom_E, ← hh1, B1.at, B1.2.1, B2'.at, B2'.2.1]
  obtain ⟨I, hI⟩ : ∃ I : Nat → Env → H → Prop, I = fun k σ h' => σ 2 = .pointer (some ⟨h.size, 0, none⟩) ∧ σ 3 = .pointer (some ⟨h.size + 1, 0, none⟩) ∧ σ 29 = .int .i64 (l.length : Nat) ∧ σ 30 = .int .i64 k ∧ k ≤ l.length ∧ h' = h1 := ⟨_, rfl⟩
  refine wpS_loop I (fun j => l.length - j) 0 (by rw [hI]; exact ⟨by simp [upd], by simp [upd], by simp [upd], by simp [upd], by omega, rfl⟩) ?_
  intro k σ h' hy
  rw [hI] at hy
  obtain ⟨e2, e3, e29, e30, hk, rfl⟩ := hy
  by_cases hlt : k < l.length
  case neg =>
    simp (disch := first | omega | (simp only [e_ssz, e_psz, e_hszs, List.length_cons, List.length_nil]; try omega; done)) only [↓reduceIte, go_sem, plSameAtom_L1, e29, e30, eq_false (show ¬ (k : Int) < (l.length : Nat) by omega)]
    exact hK'
  obtain ⟨x, hx⟩ : ∃ x, l[k]? = some x := ⟨l[k], by simp [hlt]⟩
  obtain ⟨pb, po, rfl, hpb, hpu, hpz, hpr⟩ := jv.row k x hx
  obtain ⟨qb, qo, rfl, hqb, hqu, hqz, hqr⟩ := jw.row k x hx
  rw [rep_term] at hpr hqr
  simp only [termE, sz_term, hvs_4, List.cons.injEq, and_true] at hpr hpu hpz hqr hqu hqz
  obtain ⟨p0, p1, p2, p3⟩ := hpr
  obtain ⟨q0, q1, q2, q3⟩ := hqr
  simp (disch := first | omega | (simp only [e_ssz, e_psz, e_hszs, List.length_cons, List.length_nil]; try omega; done)) only [↓reduceIte, go_sem, plSameAtom_L1, e2, e3, e29, e30, eq_true (show (k : Int) < (l.length : Nat) by omega), B1.at, B1.2.1, B2'.at, B2'.2.1, p0, p1, p2, p3, q0, q1, q2, q3]
  refine ⟨k + 1, ?_, by omega⟩
  rw [hI]
  refine ⟨?_, ?_, ?_, ?_, hlt, rfl⟩ <;> simp [upd, e2, e3, e29]
def C_sAtoms (vs : List Value) (h : H) (K : Value → H → Prop) : Prop := ∃ (u : U) (v w : Value) (l : List AtomT), vs = [v, w] ∧ IsSl u h v l ∧ IsSl u h w l ∧ ∀ u' h', Step S0 u h u' h' → K (.bool true) h'
def G_sAtoms : Ctr := fun f vs h K _ => f = 41 ∧ C_sAtom vs h K
theorem G_sAtoms_ok : GOk Tryd.prog G_sAtoms := by
  rintro f vs h K KP ⟨rfl, hC⟩; exact plSameAtom_ok hC
theorem plSameAtoms_ok {vs : List Value} {h : H} {K : Value → H → Prop} {KP : List PanicEntry → H → Prop} (hC : C_sAtoms vs h K) : HCX Tryd.prog 24 vs h K KP := by
  obtain ⟨u, v, w, l, rfl, iv, iw, hK⟩ := hC
  obtain ⟨va, vc, rfl, m1, m2⟩ := iv.sl
  obtain ⟨wa, wc, rfl, n1, n2⟩ := iw.sl
  have hm := mlen'
  refine plSameAtoms_H G_sAtoms G_sAtoms_ok _ _ ?_
  simp (disch := first | omega | (simp only [e_ssz, e_psz, e_hszs, List.length_cons, List.length_nil]; try omega; done)) only [↓reduceIte, go_sem, plSameAtoms_S, plSameAtoms_E]
  obtain ⟨I, hI⟩ : ∃ I : Nat → Env → H → Prop, I = fun k σ h' => ∃ u', σ 0 = .slice va l.length vc ∧ σ 1 = .slice wa l.length wc ∧ σ 12 = .int .i64 (l.length : Nat) ∧ σ 13 = .int .i64 k ∧ k ≤ l.length ∧ Step S0 u h u' h' := ⟨_, rfl⟩
  refine wpS_loop I (fun j => l.length - j) 0 (by rw [hI]; exact ⟨u, by simp [upd], by simp [upd], by simp [upd], by simp [upd], by omega, Step.refl _ _ _⟩) ?_
  intro k σ h' hy
  rw [hI] at hy
  obtain ⟨u', e0, e1, e12, e13, hk, st⟩ := hy
  by_cases hlt : k < l.length
  case neg =>
    simp (disch := first | omega | (simp only [e_ssz, e_psz, e_hszs, List.length_cons, List.length_nil]; try omega; done)) only [↓reduceIte, go_sem, plSameAtoms_L1, e12, e13, eq_false (show ¬ (k : Int) < (l.length : Nat) by omega)]
    exact hK _ _ st
  obtain ⟨x, hx⟩ : ∃ x, l[k]? = some x := ⟨l[k], by simp [hlt]⟩
  have jv := iv.mono st.ge
  have jw := iw.mono st.ge
  obtain ⟨pb, po, rfl, hpb, hpu, hpz, hpr⟩ := jv.row k x hx
  obtain ⟨qb, qo, rfl, hqb, hqu, hqz, hqr⟩ := jw.row k x hx
  rw [rep_atom] at hpr hqr
  obtain ⟨xv, hpr, ixv⟩ := hpr
  obtain ⟨xw, hqr, ixw⟩ := hqr
  simp only [sz_atom, hvs_3, List.cons.injEq, and_true] at hpr hpu hpz hqr hqu hqz
  obtain ⟨p0, p1, p2⟩ := hpr
  obtain ⟨q0, q1, q2⟩ := hqr
  obtain ⟨xa, xc, rfl, -, -⟩ := ixv.sl
  obtain ⟨ya, yc, rfl, -, -⟩ := ixw.sl
  simp (disch := first | omega | (simp only [e_ssz, e_psz, e_hszs, List.length_cons, List.length_nil]; try omega; done)) only [↓reduceIte, go_sem, plSameAtoms_L1, e0, e1, e12, e13, eq_true (show (k : Int) < (l.length : Nat) by omega), p0, p1, p2, q0, q1, q2]
  refine effS_call ⟨rfl, u', x.1, _, _, x.2.1, x.2.2, rfl, ixv, ixw, fun u5 h5 s5 => ⟨by simp (disch := first | omega | (simp only [e_ssz, e_psz, e_hszs, List.length_cons, List.length_nil]; try omega; done)) only [go_sem], ?_⟩⟩
  simp (disch := first | omega | (simp only [e_ssz, e_psz, e_hszs, List.length_cons, List.length_nil]; try omega; done)) only [↓reduceIte, go_sem, e13]
  refine ⟨k + 1, ?_, by omega⟩
  rw [hI]
  refine ⟨u5, ?_, ?_, ?_, ?_, hlt, st.trans0 s5⟩ <;> simp [upd, e0, e1, e12]
end Go.Proofs.YtmnfhmbmifompaaDoor
end Merged
