/- strconv.FormatInt in base 10: by the library's contract; the table that it reads. -/
import Derived.Test.YteiopegaiohglaaDoorParseI
import Derived.Test.YteiopegaiohglaaDoorLexX
namespace Go.Proofs.YteiopegaiohglaaDoor
open Go Go.Ev Edict
def PowG (u : U) (h : H) : Prop := 3 < h.size ∧ hsz h 3 = 20 ∧ 20 ≤ u 3 ∧ ∀ i, i < 20 → hv h 3 i = .int .u64 (Go.Lib.pow10Tab.getD i 0)
theorem PowG.mono {u u' : U} {h h' : H} (k : PowG u h) (g : Ge u h u' h') : PowG u' h' := by
  obtain ⟨k1, k2, k3, k4⟩ := k
  exact ⟨Nat.lt_of_lt_of_le k1 g.sz, by rw [(g.hs _ k1).1]; exact k2, Nat.le_trans k3 (g.up _ k1), fun i hi => by rw [g.cl _ k1 i (by omega)]; exact k4 i hi⟩
theorem pow_tab {u : U} {w : World} (k : PowG u w.heap) : Go.Lib.TabIs Tryd.prog w "internal/strconv.uint64pow10" .u64 Go.Lib.pow10Tab := by
  obtain ⟨k1, k2, k3, k4⟩ := k
  unfold Go.Lib.TabIs World.var?
  rw [show Tryd.prog.globalNamed "internal/strconv.uint64pow10" = some 3 by kernel_rfl, Option.bind_some]
  have hl := Go.Lib.pow10Tab_length
  cases hx : w.heap[3]? with
  | none => unfold hsz at k2; rw [hx] at k2; simp at k2
  | some o =>
    cases o with
    | cells cs t f =>
      have hs : cs.size = 20 := by unfold hsz at k2; rw [hx] at k2; exact k2
      simp only
      congr 1
      apply Array.ext
      · rw [hs]; simp [hl]
      · intro i h1 h2
        have := k4 i (by omega)
        unfold Go.Ev.hv hc at this
        rw [hx] at this
        simp only [Array.getElem?_eq_getElem h1] at this
        have hcs : cs[i] = .int .u64 (Go.Lib.pow10Tab.getD i 0) := this
        rw [hcs]
        simp [List.getD_eq_getElem?_getD, List.getElem?_eq_getElem (show i < Go.Lib.pow10Tab.length by omega)]
    | _ => unfold hsz at k2; rw [hx] at k2; simp at k2
def C_fint (vs : List Value) (h : H) (K : Value → H → Prop) : Prop := ∃ (u : U) (v : Int), vs = [.int .i64 v, .int .i64 10] ∧ (-9223372036854775808 ≤ v ∧ v ≤ 9223372036854775807) ∧ PowG u h ∧ ∀ u' h', Step S0 u h u' h' → K (str (Go.Lib.itoa v)) h'
theorem formatInt_ok {vs : List Value} {h : H} {K : Value → H → Prop} {KP : List PanicEntry → H → Prop} (hC : C_fint vs h K) : HCX Tryd.prog 110 vs h K KP := by
  obtain ⟨u, v, rfl, ⟨v1, v2⟩, hP, hK⟩ := hC
  refine .inl ⟨by kernel_rfl, fun w hw => ?_⟩
  subst hw
  refine (Tryd.strconv_FormatInt_10 v v1 v2 w (pow_tab hP)).mono ?_
  rintro e w' ⟨rfl, k, os, rfl⟩
  refine ⟨⟨rfl, rfl, rfl⟩, hK u _ (Step.ofSame ?_ (fun b hb => ?_))⟩
  · show w.heap.size ≤ (w.heap ++ os).size
    simp
  · show (w.heap ++ os)[b]? = w.heap[b]?
    rw [Array.getElem?_append_left hb]
end Go.Proofs.YteiopegaiohglaaDoor
