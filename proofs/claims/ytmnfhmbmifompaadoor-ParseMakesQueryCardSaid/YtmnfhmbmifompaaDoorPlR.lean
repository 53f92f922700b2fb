import Derived.Test.YtmnfhmbmifompaaDoorShelfI
import Derived.Test.YtmnfhmbmifompaaDoorLexX
import Derived.Test.YtmnfhmbmifompaaDoorLexC
import Derived.Lib.LaidTab
import Derived.Test.YtmnfhmbmifompaaDoorPqC
import Derived.Test.YtmnfhmbmifompaaDoorPlU
import Derived.Test.YtmnfhmbmifompaaDoorEvC
section Merged
section Merged
namespace Go.Proofs.YtmnfhmbmifompaaDoor
open Go Go.Ev Edict
def PowG (u : U) (h : H) : Prop := 1 < h.size ∧ hsz h 1 = 20 ∧ 20 ≤ u 1 ∧ ∀ i, i < 20 → hv h 1 i = .int .u64 (Go.Lib.pow10Tab.getD i 0)
theorem PowG.mono {u u' : U} {h h' : H} (k : PowG u h) (g : Ge u h u' h') : PowG u' h' := by
  obtain ⟨k1, k2, k3, k4⟩ := k
  exact ⟨Nat.lt_of_lt_of_le k1 g.sz, by rw [(g.hs _ k1).1]; exact k2, Nat.le_trans k3 (g.up _ k1), fun i hi => by rw [g.cl _ k1 i (by omega)]; exact k4 i hi⟩
theorem pow_tab {u : U} {w : World} (k : PowG u w.heap) : Go.Lib.TabIs Tryd.prog w "internal/strconv.uint64pow10" .u64 Go.Lib.pow10Tab := by
  obtain ⟨k1, k2, k3, k4⟩ := k
  unfold Go.Lib.TabIs World.var?
  rw [show Tryd.prog.globalNamed "internal/strconv.uint64pow10" = some 1 by kernel_rfl, Option.bind_some]
  have hl := Go.Lib.pow10Tab_length
  cases hx : w.heap[1]? with
  | none => unfold hsz at k2; rw [hx] at k2; simp at k2
  | some o =>
    cases o with
    | cells cs t f =>
      have hs : cs.size = 20 := by unfold hsz at k2; rw [hx] at k2; exact k2
      simp only
      congr 1
      apply Array.ext
      · rw [hs]; simp [hl]
      · intro i h1 h2
        have := k4 i (by omega)
        unfold Go.Ev.hv hc at this
        rw [hx] at this
        simp only [Array.getElem?_eq_getElem h1] at this
        have hcs : cs[i] = .int .u64 (Go.Lib.pow10Tab.getD i 0) := this
        rw [hcs]
        simp [List.getD_eq_getElem?_getD, List.getElem?_eq_getElem (show i < Go.Lib.pow10Tab.length by omega)]
    | _ => unfold hsz at k2; rw [hx] at k2; simp at k2
def C_itoa (vs : List Value) (h : H) (K : Value → H → Prop) : Prop := ∃ (u : U) (v : Int), vs = [.int .i64 v] ∧ (-9223372036854775808 ≤ v ∧ v ≤ 9223372036854775807) ∧ PowG u h ∧ ∀ u' h', Step S0 u h u' h' → K (str (Go.Lib.itoa v)) h'
theorem itoa_ok {vs : List Value} {h : H} {K : Value → H → Prop} {KP : List PanicEntry → H → Prop} (hC : C_itoa vs h K) : HCX Tryd.prog 94 vs h K KP := by
  obtain ⟨u, v, rfl, ⟨v1, v2⟩, hP, hK⟩ := hC
  refine .inl ⟨by kernel_rfl, fun w hw => ?_⟩
  subst hw
  refine (Tryd.strconv_Itoa v v1 v2 w (pow_tab hP)).mono ?_
  rintro e w' ⟨rfl, k, os, rfl⟩
  refine ⟨⟨rfl, rfl, rfl⟩, hK u _ (Step.ofSame ?_ (fun b hb => ?_))⟩
  · show w.heap.size ≤ (w.heap ++ os).size
    simp
  · show (w.heap ++ os)[b]? = w.heap[b]?
    rw [Array.getElem?_append_left hb]
end Go.Proofs.YtmnfhmbmifompaaDoor
end Merged
section Merged
namespace Go.Proofs.YtmnfhmbmifompaaDoor
open Go Go.Ev Edict Go.ChangeShapes Go.WideShapes Go.ChangeAt Go.RowKit
set_option maxRecDepth 100000 in
theorem globP {W : World} (h : laidMetH Tryd.prog Rows.parseOnesRow.laid W) : PowG (hsz W.heap) W.heap := by
  rw [MakeChecks.laidMetH_plain _ _ _ (by kernel_rfl)] at h
  obtain ⟨g, t, cs, fuel, p, q1, q2, q3, q4⟩ := Lib.laidMet.reads h (n := "internal/strconv.uint64pow10") (d := Rows.laid_internal_strconv_uint64pow10) (by simp [Rows.parseOnesRow])
  obtain rfl : 1 = g := Option.some.inj ((show Tryd.prog.globalNamed "internal/strconv.uint64pow10" = some 1 by kernel_rfl).symm.trans q1)
  obtain rfl : 200 = t := Option.some.inj ((show (Tryd.prog.globals[1]?).map (·.type) = some 200 by kernel_rfl).symm.trans q2)
  have q4' : DataW.trod (fun _ => ()) Tryd.prog W 0 (fun _ => true) false fuel 200 cs.toList = some (Go.Lib.tabData .u64 Go.Lib.pow10Tab, p) := q4
  have hcs := Go.Lib.cells_of_tab (n := 20) (e := 191) Tryd.underlying200 Tryd.underlying191 (by kernel_rfl) (by kernel_rfl) q4'
  have hlen := Go.Lib.pow10Tab_length
  have hsz0 : cs.size = 20 := by have := congrArg List.length hcs; simpa [hlen] using this
  have hcell : ∀ i, W.cell? ⟨1, i, none⟩ = cs[i]? := fun i => World.var?_cell q1 q3 i
  unfold World.var? at q3
  rw [q1, Option.bind_some] at q3
  have hz : hsz W.heap 1 = 20 := by
    unfold hsz
    cases hx : W.heap[1]? with
    | none => rw [hx] at q3; simp at q3
    | some o =>
      rw [hx] at q3
      cases o with
      | cells cs' t' f' =>
        simp only [Option.some.injEq] at q3
        show cs'.size = 20
        rw [q3]; exact hsz0
      | _ => simp at q3
  have hb : 1 < W.heap.size := by
    apply Decidable.byContradiction; intro q
    unfold hsz at hz
    rw [Array.getElem?_eq_none (by omega)] at hz
    simp at hz
  refine ⟨hb, hz, by rw [hz]; exact Nat.le_refl _, fun i hi => ?_⟩
  have h1 := hcell i
  rw [cell_hc] at h1
  unfold Go.Ev.hv
  rw [h1, ← Array.getElem?_toList, hcs, List.getElem?_map]
  rw [List.getD_eq_getElem?_getD, List.getElem?_eq_getElem (show i < Go.Lib.pow10Tab.length by omega)]
  rfl
end Go.Proofs.YtmnfhmbmifompaaDoor
end Merged
end Merged
section Merged
namespace Edict
theorem mod_is (n : Int) {k : Int} (hk : 0 < k) : (n.tmod k + k).tmod k = n % k := by
  have h1 := Int.tmod_lt_of_pos n hk
  have h2 : -k < n.tmod k := by have := Int.lt_tmod_of_pos n hk; omega
  rw [Int.tmod_eq_emod_of_nonneg (by omega), Int.add_emod_right]
  have h3 := Int.tmod_add_mul_tdiv n k
  have h4 : n % k = (n.tmod k + k * n.tdiv k) % k := by rw [h3]
  rw [h4, Int.add_mul_emod_self_left]
end Edict
namespace Go.Proofs.YtmnfhmbmifompaaDoor
open Go Go.Ev Edict
def C_mod (vs : List Value) (h : H) (K : Value → H → Prop) : Prop := ∃ (n k : Int), vs = [.int .i64 n, .int .i64 k] ∧ (0 < k ∧ k ≤ 1000000) ∧ K (.int .i64 (n % k)) h
theorem plMod_ok {vs : List Value} {h : H} {K : Value → H → Prop} {KP : List PanicEntry → H → Prop} (hC : C_mod vs h K) : HCX Tryd.prog 45 vs h K KP := by
  obtain ⟨n, k, rfl, ⟨hk, hk2⟩, hK⟩ := hC
  refine plMod_H (fun _ _ _ _ _ => False) (fun _ _ _ _ _ h => h.elim) _ _ ?_
  have h1 := Int.tmod_lt_of_pos n hk
  have h2 : -k < n.tmod k := by have := Int.lt_tmod_of_pos n hk; omega
  have h3 : (IntKind.i64).wrap (n.tmod k + k) = n.tmod k + k := by
    exact wr64 (by omega) (by omega)
  rw [← mod_is n hk] at hK
  simp (disch := first | omega | (simp only [e_ssz, e_psz, e_hszs, List.length_cons, List.length_nil]; try omega; done)) only [↓reduceIte, go_sem, plMod_S, plMod_E, eq_true (show k ≠ 0 by omega), h3]
  exact hK
def C_timesB (b : Nat) (vs : List Value) (h : H) (K : Value → H → Prop) : Prop := ∃ (s : List UInt8) (n : Int), vs = [str s, .int .i64 n] ∧ n.toNat < b ∧ (-1000000 ≤ n ∧ n ≤ 1000000) ∧ s.length ≤ 100 ∧ K (str (repF s n.toNat)) h
theorem plTimes_b : ∀ (b : Nat) {vs : List Value} {h : H} {K : Value → H → Prop} {KP : List PanicEntry → H → Prop}, C_timesB b vs h K → HCX Tryd.prog 47 vs h K KP := by
  intro b
  induction b with
  | zero => rintro vs h K KP ⟨s, n, -, hb, -⟩; exact absurd hb (Nat.not_lt_zero _)
  | succ b ih =>
    rintro vs h K KP ⟨s, n, rfl, hb, ⟨hn, hn2⟩, hs, hK⟩
    refine plTimes_H (fun f vs h K _ => f = 47 ∧ C_timesB b vs h K) (by rintro f vs h K KP ⟨rfl, hC⟩; exact ih hC) _ _ ?_
    by_cases h0 : n ≤ 0
    · rw [show n.toNat = 0 by omega] at hK
      simp (disch := first | omega | (simp only [e_ssz, e_psz, e_hszs, List.length_cons, List.length_nil]; try omega; done)) only [↓reduceIte, go_sem, plTimes_S, plTimes_E, eq_true h0]
      exact hK
    obtain ⟨q, hq⟩ : ∃ q : Nat, n = q := ⟨n.toNat, by omega⟩
    subst hq
    have h2 : ((q : Nat) : Int).tdiv 2 = ((q / 2 : Nat) : Int) := by rw [Int.tdiv_eq_ediv_of_nonneg (by omega)]; omega
    have h3 : ((q : Nat) : Int).tmod 2 = ((q % 2 : Nat) : Int) := by rw [Int.tmod_eq_emod_of_nonneg (by omega)]; omega
    have h4 : IntKind.i64.wrap ((q / 2 : Nat) : Int) = ((q / 2 : Nat) : Int) := wr64 (by omega) (by omega)
    simp (disch := first | omega | (simp only [e_ssz, e_psz, e_hszs, List.length_cons, List.length_nil]; try omega; done)) only [↓reduceIte, go_sem, plTimes_S, plTimes_E, eq_false h0, h2, h4]
    refine effS_call ⟨rfl, s, ((q / 2 : Nat) : Int), rfl, by omega, by omega, hs, by simp (disch := first | omega | (simp only [e_ssz, e_psz, e_hszs, List.length_cons, List.length_nil]; try omega; done)) only [go_sem], ?_⟩
    have hlen := repF_len s (q / 2)
    have hml : s.length * (q / 2) ≤ 100 * 500000 := Nat.mul_le_mul hs (by omega)
    rw [Int.toNat_natCast] at hK ⊢
    have hX2 : repF s (q / 2) ++ repF s (q / 2) = repF s (q / 2 + q / 2) := (repF_add s _ _).symm
    obtain ⟨X, hX⟩ : ∃ X, X = repF s (q / 2) := ⟨_, rfl⟩
    rw [← hX] at hlen hX2 ⊢
    have hm := mlen'
    by_cases h1 : q % 2 = 1
    · have hq2 : X ++ X ++ s = repF s q := by
        have := repF_add s (q / 2 + q / 2) 1
        rw [show q / 2 + q / 2 + 1 = q by omega] at this
        rw [this, hX2]
        simp [repF]
      rw [← hq2] at hK
      have h5 : ((q : Nat) : Int).tmod 2 = 1 := by rw [h3]; omega
      simp (disch := first | omega | (simp only [e_ssz, e_psz, e_hszs, List.length_cons, List.length_nil]; try omega; done)) only [↓reduceIte, go_sem, eq_true h5]
      exact ⟨by omega, by omega, hK⟩
    · have hq2 : X ++ X = repF s q := by rw [hX2, show q / 2 + q / 2 = q by omega]
      rw [← hq2] at hK
      have h5 : ¬ ((q : Nat) : Int).tmod 2 = 1 := by rw [h3]; omega
      simp (disch := first | omega | (simp only [e_ssz, e_psz, e_hszs, List.length_cons, List.length_nil]; try omega; done)) only [↓reduceIte, go_sem, eq_false h5]
      exact ⟨by omega, hK⟩
def C_times (vs : List Value) (h : H) (K : Value → H → Prop) : Prop := ∃ (s : List UInt8) (n : Int), vs = [str s, .int .i64 n] ∧ (-1000000 ≤ n ∧ n ≤ 1000000) ∧ s.length ≤ 100 ∧ K (str (repF s n.toNat)) h
theorem plTimes_ok {vs : List Value} {h : H} {K : Value → H → Prop} {KP : List PanicEntry → H → Prop} (hC : C_times vs h K) : HCX Tryd.prog 47 vs h K KP := by
  obtain ⟨s, n, rfl, hn, hs, hK⟩ := hC
  exact plTimes_b (n.toNat + 1) ⟨s, n, rfl, by omega, hn, hs, hK⟩
end Go.Proofs.YtmnfhmbmifompaaDoor
end Merged
