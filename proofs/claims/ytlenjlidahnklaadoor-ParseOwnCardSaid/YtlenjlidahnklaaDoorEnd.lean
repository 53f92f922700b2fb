/- From a call's contract by heaps to the frame of a statement: the world has at most new blocks. -/
import Derived.Test.YtlenjlidahnklaaDoorEvB
import Derived.RowKit3
namespace Go.Ev
open Go
/-- h' is h, and perhaps more blocks. -/
def Ext (h h' : H) : Prop := h.size ≤ h'.size ∧ (∀ b < h.size, h'[b]? = h[b]?) ∧ ∀ b, h.size ≤ b → (hfr h' b).2 ≤ (hfr h' b).1
theorem hfr_none {h : H} {b : Nat} (hb : h.size ≤ b) : hfr h b = (0, 0) := by unfold hfr; rw [Array.getElem?_eq_none hb]
theorem Ext.refl (h : H) : Ext h h := ⟨Nat.le_refl _, fun _ _ => rfl, fun b hb => by rw [hfr_none hb]; exact Nat.le_refl _⟩
theorem Ext.hv {h h' : H} (k : Ext h h') {b o : Nat} (hb : b < h.size) : hv h' b o = hv h b o := by unfold Go.Ev.hv hc; rw [k.2.1 b hb]
theorem Ext.hsz {h h' : H} (k : Ext h h') {b : Nat} (hb : b < h.size) : hsz h' b = hsz h b := by unfold Go.Ev.hsz; rw [k.2.1 b hb]
theorem Ext.hfr {h h' : H} (k : Ext h h') {b : Nat} (hb : b < h.size) : hfr h' b = hfr h b := by unfold Go.Ev.hfr; rw [k.2.1 b hb]
theorem Ext.trans {a b c : H} (h : Ext a b) (k : Ext b c) : Ext a c := ⟨Nat.le_trans h.1 k.1, fun i hi => (k.2.1 i (Nat.lt_of_lt_of_le hi h.1)).trans (h.2.1 i hi), fun i hi => by
  by_cases hb : i < b.size
  · rw [k.hfr hb]; exact h.2.2 i hi
  · exact k.2.2 i (by omega)⟩
theorem Ext.push {a h : H} (k : Ext a h) (c : Array Value) (t : TypeId) : Ext a (h.push (.cells c t)) := k.trans ⟨by simp, fun b hb => hget_push (by omega), fun b hb => by
  by_cases e : b = h.size
  · rw [e_hfrpe e]; exact Nat.le_refl _
  · rw [hfr_none (by simp; omega)]; exact Nat.le_refl _⟩
/-- A store into a block that is new does no harm to what was there. -/
theorem Ext.set {h h' : H} (k : Ext h h') {b o : Nat} {v : Value} (hb : h.size ≤ b) : Ext h (hset h' b o v) :=
  ⟨by rw [e_ssz]; exact k.1, fun i hi => by rw [hset_get, if_neg (by omega)]; exact k.2.1 i hi, fun i hi => by rw [hset_fr]; exact k.2.2 i hi⟩
theorem grown_of {w w' : World} (k : Keep w w') (h : Ext w.heap w'.heap) : Go.RowKit.Grown w w' := by
  refine ⟨⟨k.os, k.output, fun i hi => ?_⟩, fun a => ?_, h.1⟩
  · rw [h.2.1 i hi]
    cases w.heap[i]? with
    | none => rfl
    | some x => cases x <;> simp
  · by_cases ha : a.block < w.heap.size
    · unfold World.frozen?; rw [h.2.1 _ ha]
    · have e := h.2.2 a.block (by omega)
      have e2 : w.heap[a.block]? = none := Array.getElem?_eq_none (by omega)
      unfold World.frozen?; rw [e2]
      unfold hfr at e
      cases hx : w'.heap[a.block]? with
      | none => rfl
      | some x =>
        cases x <;> simp only
        rw [hx] at e
        simp only at e
        simp only [Bool.and_eq_false_iff, decide_eq_false_iff_not]
        omega
/-- What was there is there. -/
def Ext0 (h h' : H) : Prop := h.size ≤ h'.size ∧ ∀ b < h.size, h'[b]? = h[b]?
theorem kept_of {w w' : World} (k : Keep w w') (h : Ext0 w.heap w'.heap) : w.keptBut w' (fun _ => False) := by
  refine ⟨k.os, k.output, fun i hi => ?_⟩
  rw [h.2 i hi]
  cases w.heap[i]? with
  | none => rfl
  | some x => cases x <;> simp
theorem str_of (b : ByteArray) : Value.string b = str b.data.toList := by simp [str]
end Go.Ev
