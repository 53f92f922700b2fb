import Derived.Test.YtmnfhmbmifompaaDoorEvB
import Derived.RowKit3
import Derived.Shelf.LaysM
import Derived.Shelf.Strconv.Itoa3
import Derived.Test.YtmnfhmbmifompaaDoorProg
section Merged
namespace Go.Ev
open Go
/-- h' is h, and perhaps more blocks. -/
def Ext (h h' : H) : Prop := h.size ≤ h'.size ∧ (∀ b < h.size, h'[b]? = h[b]?) ∧ ∀ b, h.size ≤ b → (hfr h' b).2 ≤ (hfr h' b).1
theorem hfr_none {h : H} {b : Nat} (hb : h.size ≤ b) : hfr h b = (0, 0) := by unfold hfr; rw [Array.getElem?_eq_none hb]
theorem Ext.refl (h : H) : Ext h h := ⟨Nat.le_refl _, fun _ _ => rfl, fun b hb => by rw [hfr_none hb]; exact Nat.le_refl _⟩
theorem Ext.hv {h h' : H} (k : Ext h h') {b o : Nat} (hb : b < h.size) : hv h' b o = hv h b o := by unfold Go.Ev.hv hc; rw [k.2.1 b hb]
theorem Ext.hsz {h h' : H} (k : Ext h h') {b : Nat} (hb : b < h.size) : hsz h' b = hsz h b := by unfold Go.Ev.hsz; rw [k.2.1 b hb]
theorem Ext.hfr {h h' : H} (k : Ext h h') {b : Nat} (hb : b < h.size) : hfr h' b = hfr h b := by unfold Go.Ev.hfr; rw [k.2.1 b hb]
theorem Ext.trans {a b c : H} (h : Ext a b) (k : Ext b c) : Ext a c := ⟨Nat.le_trans h.1 k.1, fun i hi => (k.2.1 i (Nat.lt_of_lt_of_le hi h.1)).trans (h.2.1 i hi), fun i hi => by
  by_cases hb : i < b.size
  · rw [k.hfr hb]; exact h.2.2 i hi
  · exact k.2.2 i (by omega)⟩
theorem Ext.push {a h : H} (k : Ext a h) (c : Array Value) (t : TypeId) : Ext a (h.push (.cells c t)) := k.trans ⟨by simp, fun b hb => hget_push (by omega), fun b hb => by
  by_cases e : b = h.size
  · rw [e_hfrpe e]; exact Nat.le_refl _
  · rw [hfr_none (by simp; omega)]; exact Nat.le_refl _⟩
/-- A store into a block that is new does no harm to what was there. -/
theorem Ext.set {h h' : H} (k : Ext h h') {b o : Nat} {v : Value} (hb : h.size ≤ b) : Ext h (hset h' b o v) :=
  ⟨by rw [e_ssz]; exact k.1, fun i hi => by rw [hset_get, if_neg (by omega)]; exact k.2.1 i hi, fun i hi => by rw [hset_fr]; exact k.2.2 i hi⟩
theorem grown_of {w w' : World} (k : Keep w w') (h : Ext w.heap w'.heap) : Go.RowKit.Grown w w' := by
  refine ⟨⟨k.os, k.output, fun i hi => ?_⟩, fun a => ?_, h.1⟩
  · rw [h.2.1 i hi]
    cases w.heap[i]? with
    | none => rfl
    | some x => cases x <;> simp
  · by_cases ha : a.block < w.heap.size
    · unfold World.frozen?; rw [h.2.1 _ ha]
    · have e := h.2.2 a.block (by omega)
      have e2 : w.heap[a.block]? = none := Array.getElem?_eq_none (by omega)
      unfold World.frozen?; rw [e2]
      unfold hfr at e
      cases hx : w'.heap[a.block]? with
      | none => rfl
      | some x =>
        cases x <;> simp only
        rw [hx] at e
        simp only at e
        simp only [Bool.and_eq_false_iff, decide_eq_false_iff_not]
        omega
/-- What was there is there. -/
def Ext0 (h h' : H) : Prop := h.size ≤ h'.size ∧ ∀ b < h.size, h'[b]? = h[b]?
theorem kept_of {w w' : World} (k : Keep w w') (h : Ext0 w.heap w'.heap) : w.keptBut w' (fun _ => False) := by
  refine ⟨k.os, k.output, fun i hi => ?_⟩
  rw [h.2 i hi]
  cases w.heap[i]? with
  | none => rfl
  | some x => cases x <;> simp
theorem str_of (b : ByteArray) : Value.string b = str b.data.toList := by simp [str]
end Go.Ev
end Merged
section Merged
namespace Go.Proofs
open Go.Shelf
def Tryd.laysM171_ren : Go.Shelf.Ren := ⟨fun | 171 => 94 | 243 => 109 | 246 => 131 | 283 => 142 | 284 => 143 | 285 => 144 | 286 => 145 | 129 => 152 | 317 => 151 | 318 => 153 | 319 => 154 | 320 => 155 | 337 => 161 | 338 => 162 | n => n, fun | 3 => 3 | 9 => 9 | 2 => 2 | 4 => 4 | 171 => 190 | 0 => 0 | 53 => 191 | 37 => 186 | 5 => 5 | 173 => 194 | 212 => 200 | 51 => 201 | 20 => 20 | 213 => 202 | 46 => 198 | 232 => 215 | 233 => 216 | n => n, fun | 17 => 1 | 18 => 4 | 19 => 5 | n => n⟩
theorem Tryd.laysM171 : Go.Proofs.LaysM.n171 Tryd.prog Tryd.laysM171_ren := {
  mixed := by kernel_rfl
  f129 := Tryd.func152.trans (congrArg some (by kernel_rfl))
  f171 := Tryd.func94.trans (congrArg some (by kernel_rfl))
  f243 := Tryd.func109.trans (congrArg some (by kernel_rfl))
  f246 := Tryd.func131.trans (congrArg some (by kernel_rfl))
  f283 := Tryd.func142.trans (congrArg some (by kernel_rfl))
  f284 := Tryd.func143.trans (congrArg some (by kernel_rfl))
  f285 := Tryd.func144.trans (congrArg some (by kernel_rfl))
  f286 := Tryd.func145.trans (congrArg some (by kernel_rfl))
  f317 := Tryd.func151.trans (congrArg some (by kernel_rfl))
  f318 := Tryd.func153.trans (congrArg some (by kernel_rfl))
  f319 := Tryd.func154.trans (congrArg some (by kernel_rfl))
  f320 := Tryd.func155.trans (congrArg some (by kernel_rfl))
  f337 := Tryd.func161.trans (congrArg some (by kernel_rfl))
  f338 := Tryd.func162.trans (congrArg some (by kernel_rfl))
  t0 := Tryd.underlying0
  a0 := Tryd.isAgg0
  z0 := Tryd.sizeOf0
  v0 := Tryd.zeroValue0
  t2 := Tryd.underlying2
  a2 := Tryd.isAgg2
  z2 := Tryd.sizeOf2
  v2 := Tryd.zeroValue2
  t3 := Tryd.underlying3
  a3 := Tryd.isAgg3
  z3 := Tryd.sizeOf3
  v3 := Tryd.zeroValue3
  t4 := Tryd.underlying4
  a4 := Tryd.isAgg4
  z4 := Tryd.sizeOf4
  v4 := Tryd.zeroValue4
  t5 := Tryd.underlying5
  a5 := Tryd.isAgg5
  z5 := Tryd.sizeOf5
  v5 := Tryd.zeroValue5
  t9 := Tryd.underlying9
  a9 := Tryd.isAgg9
  z9 := Tryd.sizeOf9
  v9 := Tryd.zeroValue9
  t20 := Tryd.underlying20
  a20 := Tryd.isAgg20
  z20 := Tryd.sizeOf20
  v20 := Tryd.zeroValue20
  t37 := Tryd.underlying186
  a37 := Tryd.isAgg186
  z37 := Tryd.sizeOf186
  v37 := Tryd.zeroValue186
  t46 := Tryd.underlying198
  a46 := Tryd.isAgg198
  z46 := Tryd.sizeOf198
  v46 := Tryd.zeroValue198
  t51 := Tryd.underlying201
  a51 := Tryd.isAgg201
  z51 := Tryd.sizeOf201
  v51 := Tryd.zeroValue201
  t53 := Tryd.underlying191
  a53 := Tryd.isAgg191
  z53 := Tryd.sizeOf191
  v53 := Tryd.zeroValue191
  t171 := Tryd.underlying190
  a171 := Tryd.isAgg190
  z171 := Tryd.sizeOf190
  v171 := Tryd.zeroValue190
  t173 := Tryd.underlying194
  a173 := Tryd.isAgg194
  z173 := Tryd.sizeOf194
  v173 := Tryd.zeroValue194
  t212 := Tryd.underlying200
  a212 := Tryd.isAgg200
  z212 := Tryd.sizeOf200
  v212 := Tryd.zeroValue200
  t213 := Tryd.underlying202
  a213 := Tryd.isAgg202
  z213 := Tryd.sizeOf202
  t232 := Tryd.underlying215
  a232 := Tryd.isAgg215
  z232 := Tryd.sizeOf215
  v232 := Tryd.zeroValue215
  t233 := Tryd.underlying216
  a233 := Tryd.isAgg216
  z233 := Tryd.sizeOf216
  v233 := Tryd.zeroValue216
  g17 := by kernel_rfl
  g18 := by kernel_rfl
  g19 := by kernel_rfl
  i0 := by kernel_rfl
  i2 := by kernel_rfl
  i3 := by kernel_rfl
  i4 := by kernel_rfl
  i5 := by kernel_rfl
  i9 := by kernel_rfl
  i20 := by kernel_rfl
  i37 := by kernel_rfl
  i46 := by kernel_rfl
  i51 := by kernel_rfl
  i53 := by kernel_rfl
  i171 := by kernel_rfl
  i173 := by kernel_rfl
  i212 := by kernel_rfl
  i232 := by kernel_rfl
  i233 := by kernel_rfl
  m17 := by kernel_rfl
  m18 := by kernel_rfl
  m19 := by kernel_rfl }
open Go.RowKit Go.Sort Go.Lib in
/-- strconv.Itoa: "Itoa is equivalent to FormatInt(int64(i), 10).": i's DECIMAL NUMERAL ('Lib.itoa': a '-' where i is negative, then the digits), FOR EVERY int. The world behind the call: the world before it, new blocks behind the heap (the library's 'var a [24]byte'), draws. (LAID: no walk: one application.) -/
theorem Tryd.strconv_Itoa (n : Int) (h0 : -9223372036854775808 ≤ n) (h1 : n ≤ 9223372036854775807) (w : World) (htab : Lib.TabIs Tryd.prog w "internal/strconv.uint64pow10" .u64 Lib.pow10Tab) :
    Calls Tryd.prog 94 #[.int .i64 n] w fun e w' => e = .returned (.string ⟨(Lib.itoa n).toArray⟩) ∧ ∃ k os, w' = grow (w.drewN k) os := Any.strconv_Itoa Tryd.laysM171 n h0 h1 w htab
end Go.Proofs
end Merged
