import Derived.Test.YtmnfhmbmifompaaDoorShelfI
import Derived.Test.YtmnfhmbmifompaaDoorLexX
import Derived.Test.YtmnfhmbmifompaaDoorPlY
import Derived.Lib.LaidTab
import Derived.Test.YtmnfhmbmifompaaDoorPlG
import Derived.Test.YtmnfhmbmifompaaDoorPlV0
section Merged
section Merged
namespace Go.Proofs.YtmnfhmbmifompaaDoor
open Go Go.Ev Edict
def PowG (u : U) (h : H) : Prop := 1 < h.size ∧ hsz h 1 = 20 ∧ 20 ≤ u 1 ∧ ∀ i, i < 20 → hv h 1 i = .int .u64 (Go.Lib.pow10Tab.getD i 0)
theorem PowG.mono {u u' : U} {h h' : H} (k : PowG u h) (g : Ge u h u' h') : PowG u' h' := by
  obtain ⟨k1, k2, k3, k4⟩ := k
  exact ⟨Nat.lt_of_lt_of_le k1 g.sz, by rw [(g.hs _ k1).1]; exact k2, Nat.le_trans k3 (g.up _ k1), fun i hi => by rw [g.cl _ k1 i (by omega)]; exact k4 i hi⟩
theorem pow_tab {u : U} {w : World} (k : PowG u w.heap) : Go.Lib.TabIs Tryd.prog w "internal/strconv.uint64pow10" .u64 Go.Lib.pow10Tab := by
  obtain ⟨k1, k2, k3, k4⟩ := k
  unfold Go.Lib.TabIs World.var?
  rw [show Tryd.prog.globalNamed "internal/strconv.uint64pow10" = some 1 by kernel_rfl, Option.bind_some]
  have hl := Go.Lib.pow10Tab_length
  cases hx : w.heap[1]? with
  | none => unfold hsz at k2; rw [hx] at k2; simp at k2
  | some o =>
    cases o with
    | cells cs t f =>
      have hs : cs.size = 20 := by unfold hsz at k2; rw [hx] at k2; exact k2
      simp only
      congr 1
      apply Array.ext
      · rw [hs]; simp [hl]
      · intro i h1 h2
        have := k4 i (by omega)
        unfold Go.Ev.hv hc at this
        rw [hx] at this
        simp only [Array.getElem?_eq_getElem h1] at this
        have hcs : cs[i] = .int .u64 (Go.Lib.pow10Tab.getD i 0) := this
        rw [hcs]
        simp [List.getD_eq_getElem?_getD, List.getElem?_eq_getElem (show i < Go.Lib.pow10Tab.length by omega)]
    | _ => unfold hsz at k2; rw [hx] at k2; simp at k2
def C_itoa (vs : List Value) (h : H) (K : Value → H → Prop) : Prop := ∃ (u : U) (v : Int), vs = [.int .i64 v] ∧ (-9223372036854775808 ≤ v ∧ v ≤ 9223372036854775807) ∧ PowG u h ∧ ∀ u' h', Step S0 u h u' h' → K (str (Go.Lib.itoa v)) h'
theorem itoa_ok {vs : List Value} {h : H} {K : Value → H → Prop} {KP : List PanicEntry → H → Prop} (hC : C_itoa vs h K) : HCX Tryd.prog 94 vs h K KP := by
  obtain ⟨u, v, rfl, ⟨v1, v2⟩, hP, hK⟩ := hC
  refine .inl ⟨by kernel_rfl, fun w hw => ?_⟩
  subst hw
  refine (Tryd.strconv_Itoa v v1 v2 w (pow_tab hP)).mono ?_
  rintro e w' ⟨rfl, k, os, rfl⟩
  refine ⟨⟨rfl, rfl, rfl⟩, hK u _ (Step.ofSame ?_ (fun b hb => ?_))⟩
  · show w.heap.size ≤ (w.heap ++ os).size
    simp
  · show (w.heap ++ os)[b]? = w.heap[b]?
    rw [Array.getElem?_append_left hb]
end Go.Proofs.YtmnfhmbmifompaaDoor
end Merged
section Merged
namespace Go.Proofs.YtmnfhmbmifompaaDoor
open Go Go.Ev Edict Go.ChangeShapes Go.WideShapes Go.ChangeAt Go.RowKit
set_option maxRecDepth 100000 in
theorem globP {W : World} (h : laidMetH Tryd.prog Rows.parseOnesRow.laid W) : PowG (hsz W.heap) W.heap := by
  rw [MakeChecks.laidMetH_plain _ _ _ (by kernel_rfl)] at h
  obtain ⟨g, t, cs, fuel, p, q1, q2, q3, q4⟩ := Lib.laidMet.reads h (n := "internal/strconv.uint64pow10") (d := Rows.laid_internal_strconv_uint64pow10) (by simp [Rows.parseOnesRow])
  obtain rfl : 1 = g := Option.some.inj ((show Tryd.prog.globalNamed "internal/strconv.uint64pow10" = some 1 by kernel_rfl).symm.trans q1)
  obtain rfl : 200 = t := Option.some.inj ((show (Tryd.prog.globals[1]?).map (·.type) = some 200 by kernel_rfl).symm.trans q2)
  have q4' : DataW.trod (fun _ => ()) Tryd.prog W 0 (fun _ => true) false fuel 200 cs.toList = some (Go.Lib.tabData .u64 Go.Lib.pow10Tab, p) := q4
  have hcs := Go.Lib.cells_of_tab (n := 20) (e := 191) Tryd.underlying200 Tryd.underlying191 (by kernel_rfl) (by kernel_rfl) q4'
  have hlen := Go.Lib.pow10Tab_length
  have hsz0 : cs.size = 20 := by have := congrArg List.length hcs; simpa [hlen] using this
  have hcell : ∀ i, W.cell? ⟨1, i, none⟩ = cs[i]? := fun i => World.var?_cell q1 q3 i
  unfold World.var? at q3
  rw [q1, Option.bind_some] at q3
  have hz : hsz W.heap 1 = 20 := by
    unfold hsz
    cases hx : W.heap[1]? with
    | none => rw [hx] at q3; simp at q3
    | some o =>
      rw [hx] at q3
      cases o with
      | cells cs' t' f' =>
        simp only [Option.some.injEq] at q3
        show cs'.size = 20
        rw [q3]; exact hsz0
      | _ => simp at q3
  have hb : 1 < W.heap.size := by
    apply Decidable.byContradiction; intro q
    unfold hsz at hz
    rw [Array.getElem?_eq_none (by omega)] at hz
    simp at hz
  refine ⟨hb, hz, by rw [hz]; exact Nat.le_refl _, fun i hi => ?_⟩
  have h1 := hcell i
  rw [cell_hc] at h1
  unfold Go.Ev.hv
  rw [h1, ← Array.getElem?_toList, hcs, List.getElem?_map]
  rw [List.getD_eq_getElem?_getD, List.getElem?_eq_getElem (show i < Go.Lib.pow10Tab.length by omega)]
  rfl
end Go.Proofs.YtmnfhmbmifompaaDoor
end Merged
end Merged
section Merged
namespace Edict
def resOneD (src : List UInt8) : AtomT × Flt := match parseF oneD src with | .error e => (noAtom, e) | .ok a => (a, (0, 0))
end Edict
namespace Go.Proofs.YtmnfhmbmifompaaDoor
open Go Go.Ev Edict
def C_pOneU (vs : List Value) (h : H) (K : Value → H → Prop) : Prop := ∃ (u : U) (src : List UInt8), vs = [str src] ∧ src.length ≤ 9223372036854775807 ∧ LxG u h ∧ ∀ u' h' w, Step S0 u h u' h' → Own h.size u' h' w ((resOneD src).1.2.1.map constD) → K (.tuple #[.agg #[str (resOneD src).1.1, w], fltV (resOneD src).2]) h'
theorem psOneU_ok {vs : List Value} {h : H} {K : Value → H → Prop} {KP : List PanicEntry → H → Prop} (hC : C_pOneU vs h K) : HCX Tryd.prog 19 vs h K KP := by
  obtain ⟨u, src, rfl, hl, hG, hK⟩ := hC
  refine psFact_ok ⟨u, src, rfl, hl, hG, fun e he u' h' s => ?_, fun a ha u' h' w s o => ?_⟩
  · have hr : resOneD src = (noAtom, e) := by unfold resOneD; rw [he]
    rw [hr] at hK
    exact hK u' h' _ s (.nil _ _ _)
  · have hr : resOneD src = (a, (0, 0)) := by unfold resOneD; rw [ha]
    rw [hr] at hK
    exact hK u' h' _ s o
def C_factIs (vs : List Value) (h : H) (K : Value → H → Prop) : Prop := ∃ (u : U) (p : List UInt8) (v w : Value) (l : List TermT) (o : Int), vs = [.agg #[str p, v], .agg #[str p, w, .int .i64 o]] ∧ IsSl u h v (l.map constD) ∧ IsSl u h w l ∧ ∀ u' h', Step S0 u h u' h' → K (.bool true) h'
theorem plFactIs_ok {vs : List Value} {h : H} {K : Value → H → Prop} {KP : List PanicEntry → H → Prop} (hC : C_factIs vs h K) : HCX Tryd.prog 42 vs h K KP := by
  obtain ⟨u, p, v, w, l, o, rfl, iv, iw, hK⟩ := hC
  obtain ⟨va, vc, rfl, m1, m2⟩ := iv.sl
  obtain ⟨wa, wc, rfl, n1, n2⟩ := iw.sl
  have hm := mlen'
  have hml : (l.map constD).length = l.length := List.length_map _
  rw [hml] at iv m1
  refine plFactIs_H (fun _ _ _ _ _ => False) (fun _ _ _ _ _ h => h.elim) _ _ ?_
  obtain ⟨u1, s1, B1, B2⟩ := two_new (u := u) (h := h) [str p, .slice va l.length vc] [str p, .slice wa l.length wc, .int .i64 o] 24 52
  have jv := iv.mono s1.ge
  have jw := iw.mono s1.ge
  have hK' := hK _ _ s1
  obtain ⟨h1, hh1⟩ : ∃ h1, h1 = (h.push (.cells #[str p, .slice va l.length vc] 24)).push (.cells #[str p, .slice wa l.length wc, .int .i64 o] 52) := ⟨_, rfl⟩
  rw [← hh1] at B1 B2 jv jw hK'
  have B11 := B1.1
  have B21 := B2.1
  rw [hml]
  simp (disch := first | omega | (simp only [e_ssz, e_psz, e_hszs, List.length_cons, List.length_nil]; try omega; done)) only [↓reduceIte, go_sem, plFactIs_S, plFactIs_E, ← hh1, B1.at, B1.2.1, B2.at, B2.2.1]
  obtain ⟨I, hI⟩ : ∃ I : Nat → Env → H → Prop, I = fun k σ h' => σ 2 = .pointer (some ⟨h.size, 0, none⟩) ∧ σ 3 = .pointer (some ⟨h.size + 1, 0, none⟩) ∧ σ 22 = .int .i64 (l.length : Nat) ∧ σ 23 = .int .i64 k ∧ k ≤ l.length ∧ h' = h1 := ⟨_, rfl⟩
  refine wpS_loop I (fun j => l.length - j) 0 (by rw [hI]; exact ⟨by simp [upd], by simp [upd], by simp [upd], by simp [upd], by omega, rfl⟩) ?_
  intro k σ h' hy
  rw [hI] at hy
  obtain ⟨e2, e3, e22, e23, hk, rfl⟩ := hy
  by_cases hlt : k < l.length
  case neg =>
    simp (disch := first | omega | (simp only [e_ssz, e_psz, e_hszs, List.length_cons, List.length_nil]; try omega; done)) only [↓reduceIte, go_sem, plFactIs_L1, e2, e3, e22, e23, eq_false (show ¬ (k : Int) < (l.length : Nat) by omega)]
    exact hK'
  obtain ⟨x, hx⟩ : ∃ x, l[k]? = some x := ⟨l[k], by simp [hlt]⟩
  obtain ⟨pb, po, rfl, hpb, hpu, hpz, hpr⟩ := jv.row k (constD x) (by rw [List.getElem?_map, hx]; rfl)
  obtain ⟨qb, qo, rfl, hqb, hqu, hqz, hqr⟩ := jw.row k x hx
  rw [rep_const, show constD x = (x.1, x.2.1, x.2.2.1) from rfl] at hpr
  rw [rep_term] at hqr
  simp only [termE, sz_const, sz_term, hvs_3, hvs_4, List.cons.injEq, and_true] at hpr hpu hpz hqr hqu hqz
  obtain ⟨p0, p1, p2⟩ := hpr
  obtain ⟨q0, q1, q2, q3⟩ := hqr
  simp (disch := first | omega | (simp only [e_ssz, e_psz, e_hszs, List.length_cons, List.length_nil]; try omega; done)) only [↓reduceIte, go_sem, plFactIs_L1, e2, e3, e22, e23, eq_true (show (k : Int) < (l.length : Nat) by omega), hlt, B1.at, B1.2.1, B2.at, B2.2.1, p0, p1, p2, q0, q1, q2]
  refine ⟨k + 1, ?_, by omega⟩
  rw [hI]
  refine ⟨?_, ?_, ?_, ?_, hlt, rfl⟩ <;> simp [upd, e2, e3, e22]
end Go.Proofs.YtmnfhmbmifompaaDoor
end Merged
