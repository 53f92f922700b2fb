/- The layer, third part: rules for the operations that were added last; the heap's settled cells; data of a type, as they lie in the heap; slices that a call has made and adds to. -/
import Derived.Test.YtlenjlidahnklaaDoorEnd
namespace Go.Ev
open Go
section
set_option linter.unusedVariables false
variable {h : H}
theorem hvs_0 {b o : Nat} : hvs h b o 0 = [] := (rfl)
theorem hvs_1 {b o : Nat} : hvs h b o 1 = [hv h b o] := (rfl)
theorem hvs_2 {b o : Nat} : hvs h b o 2 = [hv h b o, hv h b (o + 1)] := (rfl)
theorem hvs_3 {b o : Nat} : hvs h b o 3 = [hv h b o, hv h b (o + 1), hv h b (o + 2)] := (rfl)
theorem hvs_4 {b o : Nat} : hvs h b o 4 = [hv h b o, hv h b (o + 1), hv h b (o + 2), hv h b (o + 3)] := (rfl)
theorem hvs_5 {b o : Nat} : hvs h b o 5 = [hv h b o, hv h b (o + 1), hv h b (o + 2), hv h b (o + 3), hv h b (o + 4)] := (rfl)
theorem hvs_6 {b o : Nat} : hvs h b o 6 = [hv h b o, hv h b (o + 1), hv h b (o + 2), hv h b (o + 3), hv h b (o + 4), hv h b (o + 5)] := (rfl)
theorem hvs_7 {b o : Nat} : hvs h b o 7 = [hv h b o, hv h b (o + 1), hv h b (o + 2), hv h b (o + 3), hv h b (o + 4), hv h b (o + 5), hv h b (o + 6)] := (rfl)
theorem hvs_8 {b o : Nat} : hvs h b o 8 = [hv h b o, hv h b (o + 1), hv h b (o + 2), hv h b (o + 3), hv h b (o + 4), hv h b (o + 5), hv h b (o + 6), hv h b (o + 7)] := (rfl)
theorem hvs_9 {b o : Nat} : hvs h b o 9 = [hv h b o, hv h b (o + 1), hv h b (o + 2), hv h b (o + 3), hv h b (o + 4), hv h b (o + 5), hv h b (o + 6), hv h b (o + 7), hv h b (o + 8)] := (rfl)
theorem hvs_10 {b o : Nat} : hvs h b o 10 = [hv h b o, hv h b (o + 1), hv h b (o + 2), hv h b (o + 3), hv h b (o + 4), hv h b (o + 5), hv h b (o + 6), hv h b (o + 7), hv h b (o + 8), hv h b (o + 9)] := (rfl)
theorem hvs_11 {b o : Nat} : hvs h b o 11 = [hv h b o, hv h b (o + 1), hv h b (o + 2), hv h b (o + 3), hv h b (o + 4), hv h b (o + 5), hv h b (o + 6), hv h b (o + 7), hv h b (o + 8), hv h b (o + 9), hv h b (o + 10)] := (rfl)
theorem hvs_12 {b o : Nat} : hvs h b o 12 = [hv h b o, hv h b (o + 1), hv h b (o + 2), hv h b (o + 3), hv h b (o + 4), hv h b (o + 5), hv h b (o + 6), hv h b (o + 7), hv h b (o + 8), hv h b (o + 9), hv h b (o + 10), hv h b (o + 11)] := (rfl)
theorem hvs_13 {b o : Nat} : hvs h b o 13 = [hv h b o, hv h b (o + 1), hv h b (o + 2), hv h b (o + 3), hv h b (o + 4), hv h b (o + 5), hv h b (o + 6), hv h b (o + 7), hv h b (o + 8), hv h b (o + 9), hv h b (o + 10), hv h b (o + 11), hv h b (o + 12)] := (rfl)
theorem hvs_14 {b o : Nat} : hvs h b o 14 = [hv h b o, hv h b (o + 1), hv h b (o + 2), hv h b (o + 3), hv h b (o + 4), hv h b (o + 5), hv h b (o + 6), hv h b (o + 7), hv h b (o + 8), hv h b (o + 9), hv h b (o + 10), hv h b (o + 11), hv h b (o + 12), hv h b (o + 13)] := (rfl)
theorem hvs_15 {b o : Nat} : hvs h b o 15 = [hv h b o, hv h b (o + 1), hv h b (o + 2), hv h b (o + 3), hv h b (o + 4), hv h b (o + 5), hv h b (o + 6), hv h b (o + 7), hv h b (o + 8), hv h b (o + 9), hv h b (o + 10), hv h b (o + 11), hv h b (o + 12), hv h b (o + 13), hv h b (o + 14)] := (rfl)
theorem hvs_16 {b o : Nat} : hvs h b o 16 = [hv h b o, hv h b (o + 1), hv h b (o + 2), hv h b (o + 3), hv h b (o + 4), hv h b (o + 5), hv h b (o + 6), hv h b (o + 7), hv h b (o + 8), hv h b (o + 9), hv h b (o + 10), hv h b (o + 11), hv h b (o + 12), hv h b (o + 13), hv h b (o + 14), hv h b (o + 15)] := (rfl)
theorem hvs_17 {b o : Nat} : hvs h b o 17 = [hv h b o, hv h b (o + 1), hv h b (o + 2), hv h b (o + 3), hv h b (o + 4), hv h b (o + 5), hv h b (o + 6), hv h b (o + 7), hv h b (o + 8), hv h b (o + 9), hv h b (o + 10), hv h b (o + 11), hv h b (o + 12), hv h b (o + 13), hv h b (o + 14), hv h b (o + 15), hv h b (o + 16)] := (rfl)
theorem hvs_18 {b o : Nat} : hvs h b o 18 = [hv h b o, hv h b (o + 1), hv h b (o + 2), hv h b (o + 3), hv h b (o + 4), hv h b (o + 5), hv h b (o + 6), hv h b (o + 7), hv h b (o + 8), hv h b (o + 9), hv h b (o + 10), hv h b (o + 11), hv h b (o + 12), hv h b (o + 13), hv h b (o + 14), hv h b (o + 15), hv h b (o + 16), hv h b (o + 17)] := (rfl)
theorem hvs_19 {b o : Nat} : hvs h b o 19 = [hv h b o, hv h b (o + 1), hv h b (o + 2), hv h b (o + 3), hv h b (o + 4), hv h b (o + 5), hv h b (o + 6), hv h b (o + 7), hv h b (o + 8), hv h b (o + 9), hv h b (o + 10), hv h b (o + 11), hv h b (o + 12), hv h b (o + 13), hv h b (o + 14), hv h b (o + 15), hv h b (o + 16), hv h b (o + 17), hv h b (o + 18)] := (rfl)
theorem hvs_20 {b o : Nat} : hvs h b o 20 = [hv h b o, hv h b (o + 1), hv h b (o + 2), hv h b (o + 3), hv h b (o + 4), hv h b (o + 5), hv h b (o + 6), hv h b (o + 7), hv h b (o + 8), hv h b (o + 9), hv h b (o + 10), hv h b (o + 11), hv h b (o + 12), hv h b (o + 13), hv h b (o + 14), hv h b (o + 15), hv h b (o + 16), hv h b (o + 17), hv h b (o + 18), hv h b (o + 19)] := (rfl)
theorem hvs_21 {b o : Nat} : hvs h b o 21 = [hv h b o, hv h b (o + 1), hv h b (o + 2), hv h b (o + 3), hv h b (o + 4), hv h b (o + 5), hv h b (o + 6), hv h b (o + 7), hv h b (o + 8), hv h b (o + 9), hv h b (o + 10), hv h b (o + 11), hv h b (o + 12), hv h b (o + 13), hv h b (o + 14), hv h b (o + 15), hv h b (o + 16), hv h b (o + 17), hv h b (o + 18), hv h b (o + 19), hv h b (o + 20)] := (rfl)
theorem hvs_22 {b o : Nat} : hvs h b o 22 = [hv h b o, hv h b (o + 1), hv h b (o + 2), hv h b (o + 3), hv h b (o + 4), hv h b (o + 5), hv h b (o + 6), hv h b (o + 7), hv h b (o + 8), hv h b (o + 9), hv h b (o + 10), hv h b (o + 11), hv h b (o + 12), hv h b (o + 13), hv h b (o + 14), hv h b (o + 15), hv h b (o + 16), hv h b (o + 17), hv h b (o + 18), hv h b (o + 19), hv h b (o + 20), hv h b (o + 21)] := (rfl)
theorem hvs_23 {b o : Nat} : hvs h b o 23 = [hv h b o, hv h b (o + 1), hv h b (o + 2), hv h b (o + 3), hv h b (o + 4), hv h b (o + 5), hv h b (o + 6), hv h b (o + 7), hv h b (o + 8), hv h b (o + 9), hv h b (o + 10), hv h b (o + 11), hv h b (o + 12), hv h b (o + 13), hv h b (o + 14), hv h b (o + 15), hv h b (o + 16), hv h b (o + 17), hv h b (o + 18), hv h b (o + 19), hv h b (o + 20), hv h b (o + 21), hv h b (o + 22)] := (rfl)
theorem hvs_24 {b o : Nat} : hvs h b o 24 = [hv h b o, hv h b (o + 1), hv h b (o + 2), hv h b (o + 3), hv h b (o + 4), hv h b (o + 5), hv h b (o + 6), hv h b (o + 7), hv h b (o + 8), hv h b (o + 9), hv h b (o + 10), hv h b (o + 11), hv h b (o + 12), hv h b (o + 13), hv h b (o + 14), hv h b (o + 15), hv h b (o + 16), hv h b (o + 17), hv h b (o + 18), hv h b (o + 19), hv h b (o + 20), hv h b (o + 21), hv h b (o + 22), hv h b (o + 23)] := (rfl)
theorem hvs_25 {b o : Nat} : hvs h b o 25 = [hv h b o, hv h b (o + 1), hv h b (o + 2), hv h b (o + 3), hv h b (o + 4), hv h b (o + 5), hv h b (o + 6), hv h b (o + 7), hv h b (o + 8), hv h b (o + 9), hv h b (o + 10), hv h b (o + 11), hv h b (o + 12), hv h b (o + 13), hv h b (o + 14), hv h b (o + 15), hv h b (o + 16), hv h b (o + 17), hv h b (o + 18), hv h b (o + 19), hv h b (o + 20), hv h b (o + 21), hv h b (o + 22), hv h b (o + 23), hv h b (o + 24)] := (rfl)
theorem hvs_26 {b o : Nat} : hvs h b o 26 = [hv h b o, hv h b (o + 1), hv h b (o + 2), hv h b (o + 3), hv h b (o + 4), hv h b (o + 5), hv h b (o + 6), hv h b (o + 7), hv h b (o + 8), hv h b (o + 9), hv h b (o + 10), hv h b (o + 11), hv h b (o + 12), hv h b (o + 13), hv h b (o + 14), hv h b (o + 15), hv h b (o + 16), hv h b (o + 17), hv h b (o + 18), hv h b (o + 19), hv h b (o + 20), hv h b (o + 21), hv h b (o + 22), hv h b (o + 23), hv h b (o + 24), hv h b (o + 25)] := (rfl)
theorem hvs_27 {b o : Nat} : hvs h b o 27 = [hv h b o, hv h b (o + 1), hv h b (o + 2), hv h b (o + 3), hv h b (o + 4), hv h b (o + 5), hv h b (o + 6), hv h b (o + 7), hv h b (o + 8), hv h b (o + 9), hv h b (o + 10), hv h b (o + 11), hv h b (o + 12), hv h b (o + 13), hv h b (o + 14), hv h b (o + 15), hv h b (o + 16), hv h b (o + 17), hv h b (o + 18), hv h b (o + 19), hv h b (o + 20), hv h b (o + 21), hv h b (o + 22), hv h b (o + 23), hv h b (o + 24), hv h b (o + 25), hv h b (o + 26)] := (rfl)
theorem hvs_28 {b o : Nat} : hvs h b o 28 = [hv h b o, hv h b (o + 1), hv h b (o + 2), hv h b (o + 3), hv h b (o + 4), hv h b (o + 5), hv h b (o + 6), hv h b (o + 7), hv h b (o + 8), hv h b (o + 9), hv h b (o + 10), hv h b (o + 11), hv h b (o + 12), hv h b (o + 13), hv h b (o + 14), hv h b (o + 15), hv h b (o + 16), hv h b (o + 17), hv h b (o + 18), hv h b (o + 19), hv h b (o + 20), hv h b (o + 21), hv h b (o + 22), hv h b (o + 23), hv h b (o + 24), hv h b (o + 25), hv h b (o + 26), hv h b (o + 27)] := (rfl)
theorem hvs_29 {b o : Nat} : hvs h b o 29 = [hv h b o, hv h b (o + 1), hv h b (o + 2), hv h b (o + 3), hv h b (o + 4), hv h b (o + 5), hv h b (o + 6), hv h b (o + 7), hv h b (o + 8), hv h b (o + 9), hv h b (o + 10), hv h b (o + 11), hv h b (o + 12), hv h b (o + 13), hv h b (o + 14), hv h b (o + 15), hv h b (o + 16), hv h b (o + 17), hv h b (o + 18), hv h b (o + 19), hv h b (o + 20), hv h b (o + 21), hv h b (o + 22), hv h b (o + 23), hv h b (o + 24), hv h b (o + 25), hv h b (o + 26), hv h b (o + 27), hv h b (o + 28)] := (rfl)
theorem hvs_30 {b o : Nat} : hvs h b o 30 = [hv h b o, hv h b (o + 1), hv h b (o + 2), hv h b (o + 3), hv h b (o + 4), hv h b (o + 5), hv h b (o + 6), hv h b (o + 7), hv h b (o + 8), hv h b (o + 9), hv h b (o + 10), hv h b (o + 11), hv h b (o + 12), hv h b (o + 13), hv h b (o + 14), hv h b (o + 15), hv h b (o + 16), hv h b (o + 17), hv h b (o + 18), hv h b (o + 19), hv h b (o + 20), hv h b (o + 21), hv h b (o + 22), hv h b (o + 23), hv h b (o + 24), hv h b (o + 25), hv h b (o + 26), hv h b (o + 27), hv h b (o + 28), hv h b (o + 29)] := (rfl)
theorem hvs_31 {b o : Nat} : hvs h b o 31 = [hv h b o, hv h b (o + 1), hv h b (o + 2), hv h b (o + 3), hv h b (o + 4), hv h b (o + 5), hv h b (o + 6), hv h b (o + 7), hv h b (o + 8), hv h b (o + 9), hv h b (o + 10), hv h b (o + 11), hv h b (o + 12), hv h b (o + 13), hv h b (o + 14), hv h b (o + 15), hv h b (o + 16), hv h b (o + 17), hv h b (o + 18), hv h b (o + 19), hv h b (o + 20), hv h b (o + 21), hv h b (o + 22), hv h b (o + 23), hv h b (o + 24), hv h b (o + 25), hv h b (o + 26), hv h b (o + 27), hv h b (o + 28), hv h b (o + 29), hv h b (o + 30)] := (rfl)
theorem hvs_32 {b o : Nat} : hvs h b o 32 = [hv h b o, hv h b (o + 1), hv h b (o + 2), hv h b (o + 3), hv h b (o + 4), hv h b (o + 5), hv h b (o + 6), hv h b (o + 7), hv h b (o + 8), hv h b (o + 9), hv h b (o + 10), hv h b (o + 11), hv h b (o + 12), hv h b (o + 13), hv h b (o + 14), hv h b (o + 15), hv h b (o + 16), hv h b (o + 17), hv h b (o + 18), hv h b (o + 19), hv h b (o + 20), hv h b (o + 21), hv h b (o + 22), hv h b (o + 23), hv h b (o + 24), hv h b (o + 25), hv h b (o + 26), hv h b (o + 27), hv h b (o + 28), hv h b (o + 29), hv h b (o + 30), hv h b (o + 31)] := (rfl)
theorem e_mkic {t : TypeId} {x : Value} : s1 (.mki t) x h = True := (rfl)
theorem e_mki {t : TypeId} {x : Value} : v1 (.mki t) x h = .iface t x := (rfl)
theorem e_capc {a : Option Addr} {n c : Nat} : s1 .cap (.slice a n c) h = True := by simp [s1, isSl]
theorem e_cap {a : Option Addr} {n c : Nat} : v1 .cap (.slice a n c) h = .int .i64 c := (rfl)
theorem e_nilsl {a : Option Addr} {n c m d : Nat} {neg : Bool} : v2 (.eqn .sl neg) (.slice a n c) (.slice none m d) h = .bool (if neg then !a.isNone else a.isNone) := by cases a <;> cases neg <;> rfl
theorem e_nilslc {a : Option Addr} {n c m d : Nat} {neg : Bool} : s2 (.eqn .sl neg) (.slice a n c) (.slice none m d) h = True := by simp [s2, nil?]
theorem e_nilp {a : Option Addr} {neg : Bool} : v2 (.eqn .ptr neg) (.pointer a) (.pointer none) h = .bool (if neg then !a.isNone else a.isNone) := by cases a <;> cases neg <;> rfl
theorem e_nilpc {a : Option Addr} {neg : Bool} : s2 (.eqn .ptr neg) (.pointer a) (.pointer none) h = True := by simp [s2, nil?]
theorem e_nili {t : TypeId} {x : Value} {neg : Bool} : v2 (.eqn .iface neg) (.iface t x) .nilIface h = .bool neg := by cases neg <;> simp [v2, nil?]
theorem e_nilic {t : TypeId} {x : Value} {neg : Bool} : s2 (.eqn .iface neg) (.iface t x) .nilIface h = True := by simp [s2, nil?]
theorem e_nili2 {neg : Bool} : v2 (.eqn .iface neg) .nilIface .nilIface h = .bool (!neg) := by cases neg <;> simp [v2, nil?]
theorem e_nili2c {neg : Bool} : s2 (.eqn .iface neg) .nilIface .nilIface h = True := by simp [s2, nil?]
theorem e_eqs {a b : List Value} {neg : Bool} {ks : List Kc} : v2 (.eqs neg ks) (.agg a.toArray) (.agg b.toArray) h = .bool (if neg then !eqL a b else eqL a b) := (rfl)
theorem e_eqsc {a b : List Value} {neg : Bool} {ks : List Kc} : s2 (.eqs neg ks) (.agg a.toArray) (.agg b.toArray) h = (kcsOk ks a = true ∧ kcsOk ks b = true) := (rfl)
theorem kc_0 : kcsOk [] [] = true := (rfl)
theorem kc_1 {k : Kc} {ks : List Kc} {v : Value} {vs : List Value} : kcsOk (k :: ks) (v :: vs) = (kcOk k v && kcsOk ks vs) := (rfl)
theorem kc_i {k k' : IntKind} {n : Int} : kcOk (.int k) (.int k' n) = decide (k = k') := (rfl)
theorem kc_s {s : List UInt8} : kcOk .str (str s) = true := (rfl)
theorem kc_b {b : Bool} : kcOk .bool (.bool b) = true := (rfl)
theorem eqL_0 : eqL [] [] = true := (rfl)
theorem eqL_1 {a b : Value} {x y : List Value} : eqL (a :: x) (b :: y) = (ceq a b && eqL x y) := (rfl)
theorem ceq_i {k k' : IntKind} {a b : Int} : ceq (.int k a) (.int k' b) = decide (a = b) := (rfl)
theorem ceq_s {a b : List UInt8} : ceq (str a) (str b) = decide (a = b) := by simp [ceq, str]
theorem ceq_b {a b : Bool} : ceq (.bool a) (.bool b) = decide (a = b) := (rfl)
theorem e_bsl {G : Ctr} {d : Option Nat} {st : Stab} {r : List St} {K : Env → H → Prop} {KP : List PanicEntry → H → Prop} {σ : Env} {e : TypeId} {sz len : Nat} {z : List Value} {ps : List Nat} {vs : List Value} : effS G (.bsl e sz len z ps) d st r K KP vs σ h = (ps.length = vs.length ∧ partsP sz len (ps.zip vs) ∧ stabP st σ h (h.push (.cells (fillP sz z (ps.zip vs)).toArray e)) ∧ wpSts G r K KP (updo σ d (.slice (some ⟨h.size, 0, none⟩) len len)) (h.push (.cells (fillP sz z (ps.zip vs)).toArray e))) := (rfl)
theorem pp_0 {sz len : Nat} : partsP sz len [] = True := (rfl)
theorem pp_1 {sz len i : Nat} {v : Value} {r : List (Nat × Value)} : partsP sz len ((i, v) :: r) = (v.cells.size = sz ∧ i < len ∧ partsP sz len r) := (rfl)
theorem fp_0 {sz : Nat} {l : List Value} : fillP sz l [] = l := (rfl)
theorem fp_agg {sz i : Nat} {l m : List Value} {r : List (Nat × Value)} : fillP sz l ((i, .agg m.toArray) :: r) = fillP sz (putL l (i * sz) m) r := by simp only [fillP, putv_agg]
theorem fp_one {sz i : Nat} {l : List Value} {v : Value} {r : List (Nat × Value)} (hv : v.cells = #[v]) : fillP sz l ((i, v) :: r) = fillP sz (l.set (i * sz) v) r := by simp only [fillP, putv_one hv]
theorem fp_int {sz i : Nat} {l : List Value} {k : IntKind} {n : Int} {r : List (Nat × Value)} : fillP sz l ((i, .int k n) :: r) = fillP sz (l.set (i * sz) (.int k n)) r := fp_one (c_int k n)
theorem fp_bool {sz i : Nat} {l : List Value} {b : Bool} {r : List (Nat × Value)} : fillP sz l ((i, .bool b) :: r) = fillP sz (l.set (i * sz) (.bool b)) r := fp_one (c_bool b)
theorem fp_str {sz i : Nat} {l : List Value} {s : List UInt8} {r : List (Nat × Value)} : fillP sz l ((i, str s) :: r) = fillP sz (l.set (i * sz) (str s)) r := fp_one (c_str s)
theorem fp_slice {sz i : Nat} {l : List Value} {a : Option Addr} {m c : Nat} {r : List (Nat × Value)} : fillP sz l ((i, .slice a m c) :: r) = fillP sz (l.set (i * sz) (.slice a m c)) r := fp_one (c_slice a m c)
theorem fp_ptr {sz i : Nat} {l : List Value} {a : Option Addr} {r : List (Nat × Value)} : fillP sz l ((i, .pointer a) :: r) = fillP sz (l.set (i * sz) (.pointer a)) r := fp_one (c_ptr a)
theorem e_mks {G : Ctr} {d : Option Nat} {st : Stab} {r : List St} {K : Env → H → Prop} {KP : List PanicEntry → H → Prop} {σ : Env} {e : TypeId} {sz bytes : Nat} {z : List Value} {k k' : IntKind} {l c : Int} : effS G (.mks e sz bytes z) d st r K KP [.int k l, .int k' c] σ h = (0 ≤ l ∧ l ≤ c ∧ c * bytes ≤ 140737488355328 ∧ stabP st σ h (h.push (.cells (reps z c.toNat).toArray e)) ∧ wpSts G r K KP (updo σ d (.slice (some ⟨h.size, 0, none⟩) l.toNat c.toNat)) (h.push (.cells (reps z c.toNat).toArray e))) := by simp [effS, fpre, isInt, ti]
theorem e_callv {G : Ctr} {d : Option Nat} {st : Stab} {r : List St} {K : Env → H → Prop} {KP : List PanicEntry → H → Prop} {σ : Env} {g : FuncId} {first cap : List Value} {vs : List Value} : effS G .callv d st r K KP (.func (.func g) first.toArray cap.toArray :: vs) σ h = G g (first ++ vs ++ cap) h (fun v h' => stabP st σ h h' ∧ wpSts G r K KP (updo σ d v) h') KP := by simp [effS, fpre]
theorem e_mkf {G : Ctr} {d : Option Nat} {st : Stab} {r : List St} {K : Env → H → Prop} {KP : List PanicEntry → H → Prop} {σ : Env} {fn : Fn} {k : Nat} {vs : List Value} : effS G (.mkf fn k) d st r K KP vs σ h = (stabP st σ h (h) ∧ wpSts G r K KP (updo σ d (.func fn (vs.take k).toArray (vs.drop k).toArray)) (h)) := (rfl)
theorem e_minc {k k' : IntKind} {a b : Int} {mx : Bool} : s2 (.mm mx) (.int k a) (.int k' b) h = True := by simp [s2, isInt]
theorem e_min {k k' : IntKind} {a b : Int} : v2 (.mm false) (.int k a) (.int k' b) h = .int k (if b < a then b else a) := by by_cases e : b < a <;> simp [v2, ti, tk, e]
theorem e_max {k k' : IntKind} {a b : Int} : v2 (.mm true) (.int k a) (.int k' b) h = .int k (if a < b then b else a) := by by_cases e : a < b <;> simp [v2, ti, tk, e]
theorem e_arrc {b o n : Nat} : s1 (.arr n) (.pointer (some ⟨b, o, none⟩)) h = True := (rfl)
theorem e_arr {b o n : Nat} : v1 (.arr n) (.pointer (some ⟨b, o, none⟩)) h = .slice (some ⟨b, o, none⟩) n n := (rfl)
theorem e_idxPc {l n : Nat} {a : Addr} {k : IntKind} {i : Int} : s2 (.idxP l n) (.pointer (some a)) (.int k i) h = (0 ≤ i ∧ i < l) := by simp [s2, isInt, ti]
theorem e_idxP {l n b o : Nat} {k : IntKind} {i : Int} : v2 (.idxP l n) (.pointer (some ⟨b, o, none⟩)) (.int k i) h = .pointer (some ⟨b, o + i.toNat * n, none⟩) := by simp [v2, ti, add0]
theorem w_both {G : Ctr} {Q : Post} {σ : Env} {a b : S} : wpS G (.both a b) Q σ h = (wpS G a Q σ h ∧ wpS G b Q σ h) := (rfl)
theorem w_dead {G : Ctr} {Q : Post} {σ : Env} : wpS G .dead Q σ h = False := (rfl)
theorem okc_cons {v : Value} {l : List Value} : (v :: l).all okCell = (okCell v && l.all okCell) := rfl
theorem nat_neg (n : Nat) : ((n : Int) < 0) = False := by simp
theorem nat_nn (n : Nat) : (0 ≤ (n : Int)) = True := by simp
theorem nat_le (a b : Nat) : ((a : Int) ≤ (b : Int)) = (a ≤ b) := by simp
theorem nat_lt (a b : Nat) : ((a : Int) < (b : Int)) = (a < b) := by simp
theorem lt_hsz {h : H} {o b : Nat} (k : o < hsz h b) : (o < hsz h b) = True := eq_true k
theorem le_hsz {h : H} {o b : Nat} (k : o ≤ hsz h b) : (o ≤ hsz h b) = True := eq_true k
attribute [go_sem] Bool.true_eq_false decide_true decide_false Bool.true_or Bool.or_true Bool.false_or Bool.or_false Bool.false_and Bool.and_false
attribute [go_sem low] lt_hsz le_hsz
attribute [go_sem] nat_neg nat_nn nat_le nat_lt Nat.not_le Nat.not_lt Nat.lt_irrefl
attribute [go_sem] hvs_0 hvs_1 hvs_2 hvs_3 hvs_4 hvs_5 hvs_6 hvs_7 hvs_8 hvs_9 hvs_10 hvs_11 hvs_12 hvs_13 hvs_14 hvs_15 hvs_16 hvs_17 hvs_18 hvs_19 hvs_20 hvs_21 hvs_22 hvs_23 hvs_24 hvs_25 hvs_26 hvs_27 hvs_28 hvs_29 hvs_30 hvs_31 hvs_32 e_mkic e_mki e_capc e_cap e_nilsl e_nilslc e_nilp e_nilpc e_nili e_nilic e_nili2 e_nili2c e_eqs e_eqsc kc_0 kc_1 kc_i kc_s kc_b eqL_0 eqL_1 ceq_i ceq_s ceq_b e_bsl pp_0 pp_1 fp_0 fp_agg fp_int fp_bool fp_str fp_slice fp_ptr e_mks e_mkf e_minc e_min e_max e_arrc e_arr e_idxPc e_idxP w_dead List.zip_cons_cons List.zip_nil_left Option.isNone_none Option.isNone_some
end

/-! ### Settled cells -/
abbrev U := Nat → Nat
def ub (u : U) (b n : Nat) : U := fun i => if i = b then n else u i
/-- What is settled in h is so in h'; blocks keep their sizes. -/
structure Ge (u : U) (h : H) (u' : U) (h' : H) : Prop where
  sz : h.size ≤ h'.size
  up : ∀ b, b < h.size → u b ≤ u' b
  hs : ∀ b, b < h.size → hsz h' b = hsz h b ∧ hfr h' b = hfr h b
  cl : ∀ b, b < h.size → ∀ o, o < u b → hv h' b o = hv h b o
theorem Ge.refl (u : U) (h : H) : Ge u h u h := ⟨Nat.le_refl _, fun _ _ => Nat.le_refl _, fun _ _ => ⟨rfl, rfl⟩, fun _ _ _ _ => rfl⟩
theorem Ge.trans {u u1 u2 : U} {h h1 h2 : H} (a : Ge u h u1 h1) (b : Ge u1 h1 u2 h2) : Ge u h u2 h2 := by
  refine ⟨Nat.le_trans a.sz b.sz, fun i hi => Nat.le_trans (a.up i hi) (b.up i (Nat.lt_of_lt_of_le hi a.sz)), fun i hi => ?_, fun i hi o ho => ?_⟩
  · have hi' := Nat.lt_of_lt_of_le hi a.sz
    exact ⟨(b.hs i hi').1.trans (a.hs i hi).1, (b.hs i hi').2.trans (a.hs i hi).2⟩
  · exact (b.cl i (Nat.lt_of_lt_of_le hi a.sz) o (Nat.lt_of_lt_of_le ho (a.up i hi))).trans (a.cl i hi o ho)
/-- Only blocks of S turn, and they only where nothing is settled. -/
structure Step (S : Nat → Prop) (u : U) (h : H) (u' : U) (h' : H) : Prop where
  ge : Ge u h u' h'
  same : ∀ b, b < h.size → ¬ S b → h'[b]? = h[b]? ∧ u' b = u b
def S0 : Nat → Prop := fun _ => False
theorem Step.refl (S : Nat → Prop) (u : U) (h : H) : Step S u h u h := ⟨.refl u h, fun _ _ _ => ⟨rfl, rfl⟩⟩
theorem Step.trans {S S2 : Nat → Prop} {u u1 u2 : U} {h h1 h2 : H} (a : Step S u h u1 h1) (b : Step S2 u1 h1 u2 h2) (hs : ∀ b, b < h.size → S2 b → S b) : Step S u h u2 h2 := by
  refine ⟨a.ge.trans b.ge, fun i hi hn => ?_⟩
  obtain ⟨a1, a2⟩ := a.same i hi hn
  obtain ⟨b1, b2⟩ := b.same i (Nat.lt_of_lt_of_le hi a.ge.sz) (fun h => hn (hs i hi h))
  exact ⟨b1.trans a1, b2.trans a2⟩
theorem Step.trans0 {S : Nat → Prop} {u u1 u2 : U} {h h1 h2 : H} (a : Step S u h u1 h1) (b : Step S0 u1 h1 u2 h2) : Step S u h u2 h2 := a.trans b (fun _ _ h => h.elim)
theorem Step.mono {S S' : Nat → Prop} {u u' : U} {h h' : H} (a : Step S u h u' h') (hs : ∀ b, b < h.size → S b → S' b) : Step S' u h u' h' :=
  ⟨a.ge, fun b hb hn => a.same b hb (fun h => hn (hs b hb h))⟩
theorem Step.ext {u u' : U} {h h' : H} (a : Step S0 u h u' h') : Ext0 h h' := ⟨a.ge.sz, fun b hb => (a.same b hb (fun h => h)).1⟩
theorem Step.hv {S : Nat → Prop} {u u' : U} {h h' : H} (a : Step S u h u' h') {b : Nat} (hb : b < h.size) (hn : ¬ S b) (o : Nat) : hv h' b o = hv h b o := by unfold Go.Ev.hv hc; rw [(a.same b hb hn).1]
theorem Step.pushf (S : Nat → Prop) (u : U) (h : H) (c : Array Value) (t : TypeId) (f : Nat × Nat) (n : Nat) : Step S u h (ub u h.size n) (h.push (.cells c t f)) := by
  refine ⟨⟨by simp, fun b hb => ?_, fun b hb => ⟨e_hszp hb, e_hfrp hb⟩, fun b hb o _ => e_hvp hb⟩, fun b hb _ => ⟨hget_push (by omega), ?_⟩⟩
  · unfold ub; rw [if_neg (by omega)]; exact Nat.le_refl _
  · unfold ub; rw [if_neg (by omega)]
theorem Step.push (S : Nat → Prop) (u : U) (h : H) (c : Array Value) (t : TypeId) (n : Nat) : Step S u h (ub u h.size n) (h.push (.cells c t)) := Step.pushf S u h c t (0, 0) n
theorem Step.push0 (S : Nat → Prop) (u : U) (h : H) (c : Array Value) (t : TypeId) : Step S u h (ub u h.size 0) (h.push (.cells c t)) := Step.push S u h c t 0
theorem hset_hv {h : H} {b o k i : Nat} {v : Value} (hne : k ≠ b ∨ i ≠ o) : Go.Ev.hv (hset h b o v) k i = Go.Ev.hv h k i := by
  unfold Go.Ev.hv hc
  rw [hset_get]
  by_cases hk : k = b
  · subst hk
    rw [if_pos rfl]
    cases hx : h[k]? with
    | none => rfl
    | some x =>
      cases x <;> simp only [Option.map_some]
      rw [Array.getElem?_setIfInBounds_ne (by omega)]
  · rw [if_neg hk]
theorem Step.set {S : Nat → Prop} (u : U) (h : H) {b o : Nat} (v : Value) (hb : S b) (ho : u b ≤ o) : Step S u h u (hset h b o v) := by
  refine ⟨⟨by rw [e_ssz]; exact Nat.le_refl _, fun _ _ => Nat.le_refl _, fun b _ => ⟨e_hszs, e_hfrs⟩, fun i hi j hj => hset_hv ?_⟩, fun i hi hn => ⟨?_, rfl⟩⟩
  · by_cases e : i = b
    · subst e; right; omega
    · exact .inl e
  · rw [hset_get, if_neg (by rintro rfl; exact hn hb)]
theorem Step.settle {S : Nat → Prop} (u : U) (h : H) {b n : Nat} (hb : S b) (hn : u b ≤ n) : Step S u h (ub u b n) h := by
  refine ⟨⟨Nat.le_refl _, fun i _ => ?_, fun _ _ => ⟨rfl, rfl⟩, fun _ _ _ _ => rfl⟩, fun i _ hni => ⟨rfl, ?_⟩⟩
  · unfold ub; split
    · rename_i e; subst e; exact hn
    · exact Nat.le_refl _
  · unfold ub; rw [if_neg (by rintro rfl; exact hni hb)]
theorem hsets_size : ∀ (l : List Value) (h : H) (b o : Nat), (hsets h b o l).size = h.size
  | [], _, _, _ => rfl
  | v :: l, h, b, o => by rw [hsets, hsets_size l, e_ssz]
theorem hsets_hsz : ∀ (l : List Value) (h : H) (b o k : Nat), hsz (hsets h b o l) k = hsz h k
  | [], _, _, _, _ => rfl
  | v :: l, h, b, o, k => by rw [hsets, hsets_hsz l, e_hszs]
theorem hsets_hfr : ∀ (l : List Value) (h : H) (b o k : Nat), hfr (hsets h b o l) k = hfr h k
  | [], _, _, _, _ => rfl
  | v :: l, h, b, o, k => by rw [hsets, hsets_hfr l, e_hfrs]
theorem hsets_hv : ∀ (l : List Value) (h : H) (b o i : Nat), o + l.length ≤ hsz h b → Go.Ev.hv (hsets h b o l) b i = if o ≤ i ∧ i < o + l.length then l.getD (i - o) undef else Go.Ev.hv h b i
  | [], _, _, o, i, _ => by rw [if_neg (by simp)]; rfl
  | v :: l, h, b, o, i, hl => by
    simp only [List.length_cons] at hl ⊢
    rw [hsets, hsets_hv l _ _ _ _ (by rw [e_hszs]; omega)]
    by_cases h1 : o + 1 ≤ i ∧ i < o + 1 + l.length
    · rw [if_pos h1, if_pos (by omega), show i - o = (i - (o + 1)) + 1 by omega, List.getD_cons_succ]
    · rw [if_neg h1]
      by_cases h2 : i = o
      · subst h2
        rw [if_pos (by omega), e_hvs (by omega), if_pos ⟨rfl, rfl⟩]; simp
      · rw [if_neg (by omega), hset_hv (.inr h2)]
theorem hsets_get : ∀ (l : List Value) (h : H) (b o k : Nat), k ≠ b → (hsets h b o l)[k]? = h[k]?
  | [], _, _, _, _, _ => rfl
  | v :: l, h, b, o, k, hk => by rw [hsets, hsets_get l _ _ _ _ hk, hset_get, if_neg hk]
theorem Step.sets {S : Nat → Prop} (u : U) (h : H) {b o : Nat} (l : List Value) (hb : S b) (ho : u b ≤ o) (hl : o + l.length ≤ hsz h b) : Step S u h u (hsets h b o l) := by
  refine ⟨⟨by rw [hsets_size]; exact Nat.le_refl _, fun _ _ => Nat.le_refl _, fun b _ => ⟨hsets_hsz .., hsets_hfr ..⟩, fun i hi j hj => ?_⟩, fun i hi hn => ⟨hsets_get _ _ _ _ _ (by rintro rfl; exact hn hb), rfl⟩⟩
  by_cases e : i = b
  · subst e; rw [hsets_hv _ _ _ _ _ hl, if_neg (by omega)]
  · unfold Go.Ev.hv hc; rw [hsets_get _ _ _ _ _ e]

/-! ### Data of a type -/
class Rep (α : Type) where
  sz : Nat
  rep : U → H → α → List Value → Prop
  wf : α → Prop
  bulk : α → Nat
  szp : 0 < sz
  len : ∀ {u h a cs}, rep u h a cs → cs.length = sz
  ok : ∀ {u h a cs}, rep u h a cs → cs.all okCell = true
  mono : ∀ {u h u' h' a cs}, Ge u h u' h' → rep u h a cs → rep u' h' a cs
  pos : ∀ a, 1 ≤ bulk a
open Rep
instance : Rep Int where
  sz := 1
  rep _ _ n cs := cs = [.int .i64 n]
  wf n := -9223372036854775808 ≤ n ∧ n ≤ 9223372036854775807
  bulk _ := 1
  szp := Nat.one_pos
  len h := by subst h; rfl
  ok h := by subst h; rfl
  mono _ h := h
  pos _ := Nat.le_refl _
instance : Rep Bool where
  sz := 1
  rep _ _ n cs := cs = [.bool n]
  wf _ := True
  bulk _ := 1
  szp := Nat.one_pos
  len h := by subst h; rfl
  ok h := by subst h; rfl
  mono _ h := h
  pos _ := Nat.le_refl _
abbrev Str := List UInt8
instance repStr : Rep (List UInt8) where
  sz := 1
  rep _ _ s cs := cs = [str s]
  wf s := s.length ≤ maxLen
  bulk s := s.length + 1
  szp := Nat.one_pos
  len h := by subst h; rfl
  ok h := by subst h; rfl
  mono _ h := h
  pos _ := by omega
instance repProd {α β : Type} [Rep α] [Rep β] : Rep (α × β) where
  sz := sz α + sz β
  rep u h p cs := ∃ c1 c2, cs = c1 ++ c2 ∧ rep u h p.1 c1 ∧ rep u h p.2 c2
  wf p := wf p.1 ∧ wf p.2
  bulk p := bulk p.1 + bulk p.2
  szp := Nat.add_pos_left szp _
  len := fun ⟨_, _, h, h1, h2⟩ => by rw [h, List.length_append, len h1, len h2]
  ok := fun ⟨_, _, h, h1, h2⟩ => by rw [h, List.all_append, ok h1, ok h2]; rfl
  mono g := fun ⟨_, _, h, h1, h2⟩ => ⟨_, _, h, mono g h1, mono g h2⟩
  pos p := by have := pos p.1; omega
/-- A slice's value, and its rows. -/
def IsSl {α : Type} [Rep α] (u : U) (h : H) (v : Value) (l : List α) : Prop := ∃ a n c, v = .slice a n c ∧ n = l.length ∧ n ≤ c ∧ c ≤ maxLen ∧ (a = none → c = 0) ∧
  (l ≠ [] → ∃ b o, a = some ⟨b, o, none⟩ ∧ b < h.size ∧ o + l.length * sz α ≤ u b ∧ o + l.length * sz α ≤ hsz h b ∧ ∀ i x, l[i]? = some x → rep u h x (hvs h b (o + i * sz α) (sz α)))
def bulkL {α : Type} [Rep α] : List α → Nat
  | [] => 1
  | x :: l => bulk x + bulkL l
theorem bulkL_pos {α : Type} [Rep α] : ∀ l : List α, l.length + 1 ≤ bulkL l
  | [] => Nat.le_refl _
  | x :: l => by have := bulkL_pos l; have := pos x; simp only [bulkL, List.length_cons]; omega
theorem bulkL_mem {α : Type} [Rep α] : ∀ {l : List α} {x : α}, x ∈ l → bulk x ≤ bulkL l
  | y :: l, x, h => by
    simp only [bulkL]
    rcases List.mem_cons.1 h with rfl | h
    · omega
    · have := bulkL_mem h; omega
theorem hvs_ge {u u' : U} {h h' : H} (g : Ge u h u' h') {b o n : Nat} (hb : b < h.size) (ho : o + n ≤ u b) : hvs h' b o n = hvs h b o n := by
  unfold hvs
  refine List.map_congr_left fun j hj => g.cl b hb _ ?_
  have := List.mem_range.1 hj; omega
theorem row_lt {i n s : Nat} (hi : i < n) : i * s + s ≤ n * s := by
  have := Nat.mul_le_mul_right s (Nat.succ_le_of_lt hi)
  rw [Nat.succ_mul] at this; exact this
theorem IsSl.mono {α : Type} [Rep α] {u u' : U} {h h' : H} {v : Value} {l : List α} (g : Ge u h u' h') (hs : IsSl u h v l) : IsSl u' h' v l := by
  obtain ⟨a, n, c, h1, h2, h3, h4, h5, h6⟩ := hs
  refine ⟨a, n, c, h1, h2, h3, h4, h5, fun hl => ?_⟩
  obtain ⟨b, o, e, hb, hu, hz, hr⟩ := h6 hl
  refine ⟨b, o, e, Nat.lt_of_lt_of_le hb g.sz, Nat.le_trans hu (g.up b hb), by rw [(g.hs b hb).1]; exact hz, fun i x hx => ?_⟩
  have hi := (List.getElem?_eq_some_iff.1 hx).1
  have := row_lt (s := sz α) hi
  rw [hvs_ge g hb (by omega)]
  exact Rep.mono g (hr i x hx)
instance repList {α : Type} [Rep α] : Rep (List α) where
  sz := 1
  rep u h l cs := ∃ v, cs = [v] ∧ IsSl u h v l
  wf l := l.length ≤ maxLen ∧ ∀ x ∈ l, wf x
  bulk := bulkL
  szp := Nat.one_pos
  len := fun ⟨_, h, _⟩ => by rw [h]; rfl
  ok := fun ⟨_, h, a, n, c, e, _⟩ => by rw [h, e]; rfl
  mono g := fun ⟨v, h, hs⟩ => ⟨v, h, hs.mono g⟩
  pos l := by have := bulkL_pos l; omega
theorem rep_int {u : U} {h : H} {n : Int} {cs : List Value} : rep u h n cs = (cs = [.int .i64 n]) := rfl
theorem rep_bool {u : U} {h : H} {n : Bool} {cs : List Value} : rep u h n cs = (cs = [.bool n]) := rfl
theorem rep_str {u : U} {h : H} {n : List UInt8} {cs : List Value} : rep u h n cs = (cs = [str n]) := rfl
theorem rep_list {α : Type} [Rep α] {u : U} {h : H} {l : List α} {cs : List Value} : rep u h l cs = (∃ v, cs = [v] ∧ IsSl u h v l) := rfl
theorem rep_prod {α β : Type} [Rep α] [Rep β] {u : U} {h : H} {p : α × β} {cs : List Value} : rep u h p cs = (∃ c1 c2, cs = c1 ++ c2 ∧ rep u h p.1 c1 ∧ rep u h p.2 c2) := rfl
theorem sz_int : sz Int = 1 := rfl
theorem sz_bool : sz Bool = 1 := rfl
theorem sz_str : sz (List UInt8) = 1 := rfl
theorem sz_list {α : Type} [Rep α] : sz (List α) = 1 := rfl
theorem sz_prod {α β : Type} [Rep α] [Rep β] : sz (α × β) = sz α + sz β := rfl
/-- What a slice's value is, and its row i. -/
theorem IsSl.sl {α : Type} [Rep α] {u : U} {h : H} {v : Value} {l : List α} (hs : IsSl u h v l) : ∃ a c, v = .slice a l.length c ∧ l.length ≤ c ∧ c ≤ maxLen := by
  obtain ⟨a, n, c, h1, h2, h3, h4, h5, h6⟩ := hs
  subst h2; exact ⟨a, c, h1, h3, h4⟩
theorem IsSl.row {α : Type} [Rep α] {u : U} {h : H} {a : Option Addr} {n c : Nat} {l : List α} (hs : IsSl u h (.slice a n c) l) (i : Nat) (x : α) (hx : l[i]? = some x) :
    ∃ b o, a = some ⟨b, o, none⟩ ∧ b < h.size ∧ o + i * sz α + sz α ≤ u b ∧ o + i * sz α + sz α ≤ hsz h b ∧ rep u h x (hvs h b (o + i * sz α) (sz α)) := by
  obtain ⟨a', n', c', h1, h2, h3, h4, h5, h6⟩ := hs
  cases h1
  have hi := (List.getElem?_eq_some_iff.1 hx).1
  obtain ⟨b, o, e, hb, hu, hz, hr⟩ := h6 (by rintro rfl; simp at hx)
  have := row_lt (s := sz α) hi
  exact ⟨b, o, e, hb, by omega, by omega, hr i x hx⟩
theorem IsSl.nil {α : Type} [Rep α] (u : U) (h : H) : IsSl u h (.slice none 0 0) ([] : List α) := ⟨none, 0, 0, rfl, rfl, Nat.le_refl _, Nat.zero_le _, fun _ => rfl, fun h => absurd rfl h⟩
/-- All rows' cells, one behind the other. -/
theorem IsSl.rows {α : Type} [Rep α] {u : U} {h : H} {a : Option Addr} {n c : Nat} {l : List α} (hs : IsSl u h (.slice a n c) l) :
    n = l.length ∧ (a = none → n = 0) ∧ ∃ news : List Value, rowsP h a (n * sz α) news ∧ news.length = n * sz α ∧ news.all okCell = true ∧ ∀ i x, l[i]? = some x → rep u h x ((news.drop (i * sz α)).take (sz α)) := by
  obtain ⟨a', n', c', h1, h2, h3, h4, h5, h6⟩ := hs
  cases h1
  subst h2
  refine ⟨rfl, fun e => by have := h5 e; omega, ?_⟩
  by_cases hl : l = []
  · subst hl
    exact ⟨[], .inl ⟨by simp, rfl⟩, by simp, rfl, fun i x hx => by simp at hx⟩
  · obtain ⟨b, o, e, hb, hu, hz, hr⟩ := h6 hl
    subst e
    have hrow : ∀ i, i < l.length → ((hvs h b o (l.length * sz α)).drop (i * sz α)).take (sz α) = hvs h b (o + i * sz α) (sz α) := fun i hi => by
      have := row_lt (s := sz α) hi
      unfold hvs
      apply List.ext_getElem?
      intro j
      simp only [List.getElem?_take, List.getElem?_drop, List.getElem?_map]
      by_cases hj : j < sz α
      · rw [if_pos hj, List.getElem?_range (by omega), List.getElem?_range hj]
        simp [Nat.add_assoc]
      · rw [if_neg hj, List.getElem?_eq_none (by simpa using hj)]; rfl
    refine ⟨hvs h b o (l.length * sz α), .inr ⟨hz, rfl⟩, by simp [hvs], ?_, fun i x hx => ?_⟩
    · rw [List.all_eq_true]
      intro c hc
      obtain ⟨j, hj, rfl⟩ := List.mem_map.1 hc
      rw [List.mem_range] at hj
      have hp := szp (α := α)
      have hi : j / sz α < l.length := Nat.div_lt_of_lt_mul (by rw [Nat.mul_comm]; exact hj)
      have h7 := ok (hr (j / sz α) l[j / sz α] (by simp [hi]))
      rw [List.all_eq_true] at h7
      have h8 := Nat.div_add_mod j (sz α)
      have h9 := Nat.mod_lt j hp
      refine h7 _ (List.mem_map.2 ⟨j % sz α, List.mem_range.2 h9, ?_⟩)
      have : o + j / sz α * sz α + j % sz α = o + j := by rw [Nat.mul_comm (j / sz α)]; omega
      rw [this]
    · rw [hrow i (List.getElem?_eq_some_iff.1 hx).1]
      exact hr i x hx

/-! ### A slice that the call has made, and adds to -/
def OwnB (v : Value) (b : Nat) : Prop := ∃ o n c, v = .slice (some ⟨b, o, none⟩) n c
def Own {α : Type} [Rep α] (k : Nat) (u : U) (h : H) (v : Value) (l : List α) : Prop := (v = .slice none 0 0 ∧ l = []) ∨
  ∃ b c, v = .slice (some ⟨b, 0, none⟩) l.length c ∧ l.length ≤ c ∧ c ≤ maxLen ∧ k ≤ b ∧ b < h.size ∧ hsz h b = c * sz α ∧ hfr h b = (0, 0) ∧ u b = l.length * sz α ∧ ∀ i x, l[i]? = some x → rep u h x (hvs h b (i * sz α) (sz α))
theorem Own.nil {α : Type} [Rep α] (k : Nat) (u : U) (h : H) : Own k u h (.slice none 0 0) ([] : List α) := .inl ⟨rfl, rfl⟩
theorem Own.sl {α : Type} [Rep α] {k : Nat} {u : U} {h : H} {v : Value} {l : List α} (ho : Own k u h v l) : ∃ a c, v = .slice a l.length c ∧ l.length ≤ c ∧ c ≤ maxLen := by
  rcases ho with ⟨rfl, rfl⟩ | ⟨b, c, rfl, h1, h2, _⟩
  · exact ⟨none, 0, rfl, Nat.le_refl _, Nat.zero_le _⟩
  · exact ⟨_, c, rfl, h1, h2⟩
theorem Own.isSl {α : Type} [Rep α] {k : Nat} {u : U} {h : H} {v : Value} {l : List α} (ho : Own k u h v l) : IsSl u h v l := by
  rcases ho with ⟨rfl, rfl⟩ | ⟨b, c, rfl, h1, h2, h3, h4, h5, h6, h7, h8⟩
  · exact .nil u h
  · refine ⟨_, _, _, rfl, rfl, h1, h2, (fun h => by cases h), fun _ => ⟨b, 0, rfl, h4, by omega, ?_, fun i x hx => ?_⟩⟩
    · rw [h5, Nat.zero_add]; exact Nat.mul_le_mul_right _ h1
    · rw [Nat.zero_add]; exact h8 i x hx
theorem Own.ge {α : Type} [Rep α] {k : Nat} {u : U} {h : H} {v : Value} {l : List α} (ho : Own k u h v l) {b : Nat} (hb : OwnB v b) : k ≤ b := by
  obtain ⟨o, n, c, rfl⟩ := hb
  rcases ho with ⟨h, _⟩ | ⟨b', c', h, _, _, h3, _⟩
  · cases h
  · cases h; exact h3
theorem Own.lt {α : Type} [Rep α] {k : Nat} {u : U} {h : H} {v : Value} {l : List α} (ho : Own k u h v l) {b : Nat} (hb : OwnB v b) : b < h.size := by
  obtain ⟨o, n, c, rfl⟩ := hb
  rcases ho with ⟨h, _⟩ | ⟨b', c', h, _, _, _, h3, _⟩
  · cases h
  · cases h; exact h3
theorem Own.step {α : Type} [Rep α] {S : Nat → Prop} {k : Nat} {u u' : U} {h h' : H} {v : Value} {l : List α} (ho : Own k u h v l) (s : Step S u h u' h') (hn : ∀ b, OwnB v b → ¬ S b) : Own k u' h' v l := by
  rcases ho with h0 | ⟨b, c, rfl, h1, h2, h3, h4, h5, h6, h7, h8⟩
  · exact .inl h0
  · obtain ⟨s1, s2⟩ := s.same b h4 (hn b ⟨_, _, _, rfl⟩)
    refine .inr ⟨b, c, rfl, h1, h2, h3, Nat.lt_of_lt_of_le h4 s.ge.sz, by rw [(s.ge.hs b h4).1]; exact h5, by rw [(s.ge.hs b h4).2]; exact h6, by rw [s2]; exact h7, fun i x hx => ?_⟩
    have hi := (List.getElem?_eq_some_iff.1 hx).1
    have := row_lt (s := sz α) hi
    rw [hvs_ge s.ge h4 (by omega)]
    exact Rep.mono s.ge (h8 i x hx)
theorem Own.step0 {α : Type} [Rep α] {k : Nat} {u u' : U} {h h' : H} {v : Value} {l : List α} (ho : Own k u h v l) (s : Step S0 u h u' h') : Own k u' h' v l := ho.step s (fun _ _ h => h)
theorem Own.mono {α : Type} [Rep α] {k k' : Nat} {u : U} {h : H} {v : Value} {l : List α} (ho : Own k u h v l) (hk : k' ≤ k) : Own k' u h v l := by
  rcases ho with h0 | ⟨b, c, rfl, h1, h2, h3, h4⟩
  · exact .inl h0
  · exact .inr ⟨b, c, rfl, h1, h2, Nat.le_trans hk h3, h4⟩
/-- Made empty, or full. -/
theorem Own.made {α : Type} [Rep α] {k : Nat} (u : U) (h : H) (hk : k ≤ h.size) (e : TypeId) (l : List α) (cs : List Value) (hl : cs.length = l.length * sz α) (hm : l.length ≤ maxLen)
    (hr : ∀ i x, l[i]? = some x → rep u h x ((cs.drop (i * sz α)).take (sz α))) :
    Own k (ub u h.size (l.length * sz α)) (h.push (.cells cs.toArray e)) (.slice (some ⟨h.size, 0, none⟩) l.length l.length) l := by
  have st := Step.push S0 u h cs.toArray e (l.length * sz α)
  refine .inr ⟨h.size, l.length, rfl, Nat.le_refl _, hm, hk, by simp, by rw [e_hszpe rfl, hl], e_hfrpe rfl, by simp [ub], fun i x hx => ?_⟩
  have : hvs (h.push (.cells cs.toArray e)) h.size (i * sz α) (sz α) = (cs.drop (i * sz α)).take (sz α) := by
    have hi := (List.getElem?_eq_some_iff.1 hx).1
    have h2 := row_lt (s := sz α) hi
    unfold hvs
    apply List.ext_getElem?
    intro j
    simp only [List.getElem?_take, List.getElem?_drop, List.getElem?_map]
    by_cases hj : j < sz α
    · rw [if_pos hj, List.getElem?_range hj, Option.map_some, e_hvpe rfl, List.getD_eq_getElem?_getD, List.getElem?_eq_getElem (by omega)]; rfl
    · rw [if_neg hj, List.getElem?_eq_none (by simpa using hj)]; rfl
  rw [this]
  exact Rep.mono st.ge (hr i x hx)
theorem drop_take_left {a b : List Value} {o n : Nat} (h : o + n ≤ a.length) : ((a ++ b).drop o).take n = (a.drop o).take n := by
  rw [List.drop_append_of_le_length (by omega), List.take_append_of_le_length (by simp; omega)]
theorem drop_take_right {a b : List Value} {o n : Nat} (h : a.length ≤ o) : ((a ++ b).drop o).take n = (b.drop (o - a.length)).take n := by
  rw [List.drop_append, List.drop_eq_nil_of_le h, List.nil_append]
theorem hvs_rows {h : H} {b o n : Nat} {cs : List Value} (hc : ∀ j, j < n → Go.Ev.hv h b (o + j) = cs.getD j undef) (hl : cs.length = n) : hvs h b o n = cs := by
  unfold hvs
  apply List.ext_getElem?
  intro j
  rw [List.getElem?_map]
  by_cases hj : j < n
  · rw [List.getElem?_range hj, Option.map_some, hc j hj, List.getD_eq_getElem?_getD, List.getElem?_eq_getElem (by omega)]; rfl
  · rw [List.getElem?_eq_none (by simpa using hj), List.getElem?_eq_none (by omega)]; rfl
theorem getD_drop_take {l : List Value} {o n j : Nat} (hj : j < n) : ((l.drop o).take n).getD j undef = l.getD (o + j) undef := by
  simp [List.getD_eq_getElem?_getD, hj, List.getElem?_drop]
/-- append: the slice v of the call's own, and w's rows. -/
theorem own_app {α : Type} [Rep α] {G : Ctr} {e : TypeId} {bytes : Nat} {z : List Value} {k s : Nat} {u : U} {h : H} {v w : Value} {l m : List α} {K : Value → H → Prop} {KP : List PanicEntry → H → Prop}
    (ho : Own k u h v l) (hw : IsSl u h w m) (hs : s = sz α) (hz : z.length = sz α) (hk : k ≤ h.size) (hb : (l.length + m.length) * bytes ≤ 140737488355328)
    (hK : ∀ v' u' h', Own k u' h' v' (l ++ m) → Step (OwnB v) u h u' h' → (∀ b, OwnB v' b → OwnB v b ∨ h.size ≤ b) → K v' h') : fpre G (.app e s bytes z) [v, w] h K KP := by
  subst hs
  obtain ⟨wa, wn, wc, rfl, -⟩ := id hw
  obtain ⟨hwn, hw0, news, hrn, hnl, hnok, hnr⟩ := hw.rows
  subst hwn
  obtain ⟨va, vc, rfl, hvc, hvm⟩ := ho.sl
  show appP e (sz α) bytes z va l.length vc wa m.length h K
  have hlen : (l ++ m).length = l.length + m.length := by simp
  -- the rows of the new block
  have grow : ∀ (olds : List Value) (cap : Nat), olds.length = l.length * sz α → (∀ i x, l[i]? = some x → rep u h x ((olds.drop (i * sz α)).take (sz α))) → l.length + m.length ≤ cap → cap ≤ maxLen →
      K (.slice (some ⟨h.size, 0, none⟩) (l.length + m.length) cap) (h.push (.cells (olds ++ news ++ reps z (cap - (l.length + m.length))).toArray e)) := by
    intro olds cap hol hor h1 h2
    have st := Step.push (OwnB (.slice va l.length vc)) u h (olds ++ news ++ reps z (cap - (l.length + m.length))).toArray e ((l.length + m.length) * sz α)
    refine hK _ (ub u h.size ((l.length + m.length) * sz α)) _ (.inr ⟨h.size, cap, by rw [hlen], by omega, h2, hk, by simp, ?_, e_hfrpe rfl, by simp [ub], fun i x hx => ?_⟩) st (fun b hb => ?_)
    · rw [e_hszpe rfl]
      have : (reps z (cap - (l.length + m.length))).length = (cap - (l.length + m.length)) * sz α := by simp [reps, hz]
      rw [List.length_append, List.length_append, hol, hnl, this, ← Nat.add_mul, ← Nat.add_mul]
      congr 1; omega
    · have hi := (List.getElem?_eq_some_iff.1 hx).1
      rw [hlen] at hi
      have h3 := row_lt (s := sz α) hi
      have hcs : rep u h x (((olds ++ news).drop (i * sz α)).take (sz α)) := by
        by_cases hil : i < l.length
        · rw [List.getElem?_append_left hil] at hx
          have := row_lt (s := sz α) hil
          rw [drop_take_left (by omega)]
          exact hor i x hx
        · rw [List.getElem?_append_right (by omega)] at hx
          have h5 : i * sz α = l.length * sz α + (i - l.length) * sz α := by rw [← Nat.add_mul]; congr 1; omega
          rw [drop_take_right (by omega), hol, h5, Nat.add_sub_cancel_left]
          exact hnr _ x hx
      have hll : (((olds ++ news).drop (i * sz α)).take (sz α)).length = sz α := Rep.len hcs
      rw [hvs_rows (cs := ((olds ++ news).drop (i * sz α)).take (sz α)) (fun j hj => ?_) hll]
      · exact Rep.mono st.ge hcs
      · rw [e_hvpe rfl, getD_drop_take hj]
        rw [Nat.add_mul] at h3
        rw [List.getD_eq_getElem?_getD, List.getD_eq_getElem?_getD, List.getElem?_append_left (by rw [List.length_append, hol, hnl]; omega)]
    · obtain ⟨o, n, c, e⟩ := hb
      cases e; right; exact Nat.le_refl _
  rcases ho with ⟨he, rfl⟩ | ⟨b, c, he, h1, h2, h3, h4, h5, h6, h7, h8⟩
  · cases he
    refine ⟨fun _ => ⟨rfl, rfl⟩, hw0, Nat.le_refl _, hb, [], news, .inl ⟨by simp, rfl⟩, hrn, fun hle => ?_, fun _ cap hc1 hc2 => ?_⟩
    · have : m = [] := List.eq_nil_of_length_eq_zero (by simp only [List.length_nil] at hle; omega)
      subst this
      exact hK _ u h (.inl ⟨rfl, rfl⟩) (.refl _ _ _) (fun b hb => .inl hb)
    · have := grow [] cap (by simp) (fun i x hx => by simp at hx) hc1 hc2
      simpa using this
  · cases he
    refine ⟨(fun h => by cases h), hw0, h1, hb, hvs h b 0 (l.length * sz α), news, .inr ⟨by rw [h5, Nat.zero_add]; exact Nat.mul_le_mul_right _ h1, rfl⟩, hrn, fun hle => ?_, fun _ cap hc1 hc2 => ?_⟩
    · have hroom : (l.length + m.length) * sz α ≤ vc * sz α := Nat.mul_le_mul_right _ hle
      rw [Nat.add_mul] at hroom
      simp only [Nat.zero_add]
      have hfit : l.length * sz α + news.length ≤ hsz h b := by rw [h5, hnl]; exact hroom
      refine ⟨⟨hfit, by rw [h6]; right; exact Nat.zero_le _, hnok⟩, ?_⟩
      have hB : OwnB (.slice (some ⟨b, 0, none⟩) l.length vc) b := ⟨_, _, _, rfl⟩
      have s1 := Step.sets (S := OwnB (.slice (some ⟨b, 0, none⟩) l.length vc)) u h news hB (by rw [h7]; exact Nat.le_refl _) hfit
      have s2 := Step.settle (S := OwnB (.slice (some ⟨b, 0, none⟩) l.length vc)) u (hsets h b (l.length * sz α) news) (n := (l.length + m.length) * sz α) hB (by rw [h7]; exact Nat.mul_le_mul_right _ (Nat.le_add_right _ _))
      have st := s1.trans s2 (fun _ _ h => h)
      refine hK _ _ _ (.inr ⟨b, vc, by rw [hlen], by rw [hlen]; exact hle, h2, h3, by rw [hsets_size]; exact h4, by rw [hsets_hsz]; exact h5, by rw [hsets_hfr]; exact h6, by rw [hlen]; simp [ub], fun i x hx => ?_⟩) st (fun b' hb' => ?_)
      · have hi := (List.getElem?_eq_some_iff.1 hx).1
        rw [hlen] at hi
        by_cases hil : i < l.length
        · rw [List.getElem?_append_left hil] at hx
          have := row_lt (s := sz α) hil
          rw [hvs_ge s1.ge h4 (by omega)]
          exact Rep.mono st.ge (h8 i x hx)
        · rw [List.getElem?_append_right (by omega)] at hx
          have h9 : i * sz α = l.length * sz α + (i - l.length) * sz α := by rw [← Nat.add_mul]; congr 1; omega
          have hcs := hnr _ x hx
          have h10 := row_lt (s := sz α) (show i - l.length < m.length by omega)
          rw [hvs_rows (cs := (news.drop ((i - l.length) * sz α)).take (sz α)) (fun j hj => ?_) (Rep.len hcs)]
          · exact Rep.mono st.ge hcs
          · rw [hsets_hv _ _ _ _ _ hfit, if_pos (by rw [hnl]; omega), getD_drop_take hj, h9]
            congr 1; omega
      · obtain ⟨o, n, c', e⟩ := hb'
        cases e; exact .inl hB
    · refine grow _ cap (by simp [hvs]) (fun i x hx => ?_) hc1 hc2
      have hi := (List.getElem?_eq_some_iff.1 hx).1
      have h3 := row_lt (s := sz α) hi
      have : ((hvs h b 0 (l.length * sz α)).drop (i * sz α)).take (sz α) = hvs h b (i * sz α) (sz α) := by
        unfold hvs
        apply List.ext_getElem?
        intro j
        simp only [List.getElem?_take, List.getElem?_drop, List.getElem?_map]
        by_cases hj : j < sz α
        · rw [if_pos hj, List.getElem?_range (by omega), List.getElem?_range hj]; simp
        · rw [if_neg hj, List.getElem?_eq_none (by simpa using hj)]; rfl
      rw [this]; exact h8 i x hx
/-- One row, laid into a new block first. -/
theorem own_app1 {α : Type} [Rep α] {G : Ctr} {e e' : TypeId} {bytes s : Nat} {z cs : List Value} {k : Nat} {u : U} {h : H} {v : Value} {l : List α} {x : α} {K : Value → H → Prop} {KP : List PanicEntry → H → Prop}
    (ho : Own k u h v l) (hx : rep u h x cs) (hs : s = sz α) (hz : z.length = sz α) (hk : k ≤ h.size) (hb : (l.length + 1) * bytes ≤ 140737488355328)
    (hK : ∀ v' u' h', Own k u' h' v' (l ++ [x]) → Step (OwnB v) u h u' h' → (∀ b, OwnB v' b → OwnB v b ∨ h.size ≤ b) → K v' h') : fpre G (.app e s bytes z) [v, .slice (some ⟨h.size, 0, none⟩) 1 1] (h.push (.cells cs.toArray e')) K KP := by
  have hl := Rep.len hx
  have st := Step.push S0 u h cs.toArray e' (sz α)
  have hw : IsSl (ub u h.size (sz α)) (h.push (.cells cs.toArray e')) (.slice (some ⟨h.size, 0, none⟩) 1 1) [x] := by
    have := (Own.made (k := 0) u h (Nat.zero_le _) e' [x] cs (by simp [hl]) (by simp only [List.length_singleton]; decide) (fun i y hy => ?_)).isSl
    · simpa using this
    · cases i with
      | zero =>
        simp only [List.getElem?_cons_zero, Option.some.injEq] at hy
        subst hy
        rw [Nat.zero_mul, List.drop_zero, List.take_of_length_le (by omega)]; exact hx
      | succ i => simp at hy
  refine own_app (ho.step0 st) hw hs hz (by simp; omega) (by simpa using hb) fun v' u' h' o' s' b' => hK v' u' h' o' ?_ (fun b hb => (b' b hb).imp id fun h => by simp at h; omega)
  exact (Step.push (OwnB v) u h cs.toArray e' (sz α)).trans s' (fun _ _ h => h)
end Go.Ev
namespace Go.Ev
open Go
theorem Step.pushR {S : Nat → Prop} {u u1 : U} {h h1 : H} {c : Array Value} {t : TypeId} (s : Step S u h u1 h1) : Step S u h (ub u1 h1.size 0) (h1.push (.cells c t)) :=
  s.trans (Step.push S0 u1 h1 c t 0) (fun _ _ h => h.elim)
theorem Step.setR {S : Nat → Prop} {u u1 : U} {h h1 : H} {b o : Nat} {v : Value} (s : Step S u h u1 h1) (hb : h.size ≤ b ∨ S b) (hu : u1 b ≤ o) : Step S u h u1 (hset h1 b o v) :=
  s.trans (Step.set (S := fun i => i = b) u1 h1 v rfl hu) (fun i hi e => by
    subst e
    rcases hb with hb | hb
    · omega
    · exact hb)
end Go.Ev
namespace Go.Ev
open Go Rep
/-- A block of the call's own that holds the cells cs, none of them settled. -/
def Blk (u : U) (h : H) (b : Nat) (cs : List Value) : Prop := b < h.size ∧ hsz h b = cs.length ∧ hfr h b = (0, 0) ∧ u b = 0 ∧ ∀ i v, cs[i]? = some v → Go.Ev.hv h b i = v
theorem Blk.step {S : Nat → Prop} {u u' : U} {h h' : H} {b : Nat} {cs : List Value} (k : Blk u h b cs) (s : Step S u h u' h') (hn : ¬ S b) : Blk u' h' b cs := by
  obtain ⟨k1, k2, k3, k4, k5⟩ := k
  obtain ⟨s1, s2⟩ := s.same b k1 hn
  refine ⟨Nat.lt_of_lt_of_le k1 s.ge.sz, by rw [(s.ge.hs b k1).1]; exact k2, by rw [(s.ge.hs b k1).2]; exact k3, by rw [s2]; exact k4, fun i v hv => ?_⟩
  unfold Go.Ev.hv hc; rw [s1]; exact k5 i v hv
theorem Blk.step0 {u u' : U} {h h' : H} {b : Nat} {cs : List Value} (k : Blk u h b cs) (s : Step S0 u h u' h') : Blk u' h' b cs := k.step s (fun h => h)
theorem Blk.at {u : U} {h : H} {b : Nat} {cs : List Value} (k : Blk u h b cs) (i : Nat) (hi : i < cs.length) : Go.Ev.hv h b i = cs.getD i undef := by
  have := k.2.2.2.2 i cs[i] (by simp [hi])
  rw [this, List.getD_eq_getElem?_getD, List.getElem?_eq_getElem hi]; rfl
theorem Blk.mk {u : U} {h : H} {b : Nat} {cs : List Value} (h1 : b < h.size) (h2 : hsz h b = cs.length) (h3 : hfr h b = (0, 0)) (h4 : u b = 0) (h5 : hvs h b 0 cs.length = cs) : Blk u h b cs := by
  refine ⟨h1, h2, h3, h4, fun i v hv => ?_⟩
  have hi := (List.getElem?_eq_some_iff.1 hv).1
  rw [← h5] at hv
  unfold hvs at hv
  rw [List.getElem?_map, List.getElem?_range (by simpa using hi)] at hv
  simpa using hv
theorem bulk_int {n : Int} : bulk n = 1 := rfl
theorem bulk_bool {n : Bool} : bulk n = 1 := rfl
theorem bulk_str {s : List UInt8} : bulk s = s.length + 1 := rfl
theorem bulk_prod {α β : Type} [Rep α] [Rep β] {p : α × β} : bulk p = bulk p.1 + bulk p.2 := rfl
theorem bulk_list {α : Type} [Rep α] {l : List α} : bulk l = bulkL l := rfl
theorem ub_self {u : U} {b n : Nat} : ub u b n b = n := by simp [ub]
theorem ub_at {u : U} {b n i : Nat} (h : i = b) : ub u b n i = n := by simp [ub, h]
theorem ub_zero {u : U} {b i : Nat} (h : u i = 0) : ub u b 0 i = 0 := by unfold ub; split <;> first | rfl | exact h
theorem ub_ne {u : U} {b n i : Nat} (h : i ≠ b) : ub u b n i = u i := by simp [ub, h]
theorem effS_call {G : Ctr} {f : FuncId} {d : Option Nat} {st : Stab} {r : List St} {K : Env → H → Prop} {KP : List PanicEntry → H → Prop} {vs : List Value} {σ : Env} {h : H}
    (hc : G f vs h (fun v h' => stabP st σ h h' ∧ wpSts G r K KP (updo σ d v) h') KP) : effS G (.call f) d st r K KP vs σ h := hc
/-- append of a row that was laid into a new block. -/
theorem effS_app1 {α : Type} [Rep α] {G : Ctr} {e e' : TypeId} {bytes s : Nat} {z cs : List Value} {k : Nat} {u : U} {h : H} {v : Value} {l : List α} {x : α} {d : Option Nat} {st : Stab} {r : List St} {K : Env → H → Prop} {KP : List PanicEntry → H → Prop} {σ : Env}
    (ho : Own k u h v l) (hx : rep u h x cs) (hs : s = sz α) (hz : z.length = sz α) (hk : k ≤ h.size) (hb : (l.length + 1) * bytes ≤ 140737488355328)
    (hK : ∀ a n c u' h', Own k u' h' (.slice a n c) (l ++ [x]) → Step (OwnB v) u h u' h' → stabP st σ (h.push (.cells cs.toArray e')) h' ∧ wpSts G r K KP (updo σ d (.slice a n c)) h') :
    effS G (.app e s bytes z) d st r K KP [v, .slice (some ⟨h.size, 0, none⟩) 1 1] σ (h.push (.cells cs.toArray e')) :=
  own_app1 ho hx hs hz hk hb fun v' u' h' o' s' _ => by
    obtain ⟨a, c, rfl, -, -⟩ := o'.sl
    exact hK _ _ _ _ _ o' s'
theorem effS_app {α : Type} [Rep α] {G : Ctr} {e : TypeId} {bytes s : Nat} {z : List Value} {k : Nat} {u : U} {h : H} {v w : Value} {l m : List α} {d : Option Nat} {st : Stab} {r : List St} {K : Env → H → Prop} {KP : List PanicEntry → H → Prop} {σ : Env}
    (ho : Own k u h v l) (hw : IsSl u h w m) (hs : s = sz α) (hz : z.length = sz α) (hk : k ≤ h.size) (hb : (l.length + m.length) * bytes ≤ 140737488355328)
    (hK : ∀ a n c u' h', Own k u' h' (.slice a n c) (l ++ m) → Step (OwnB v) u h u' h' → stabP st σ h h' ∧ wpSts G r K KP (updo σ d (.slice a n c)) h') :
    effS G (.app e s bytes z) d st r K KP [v, w] σ h :=
  own_app ho hw hs hz hk hb fun v' u' h' o' s' _ => by
    obtain ⟨a, c, rfl, -, -⟩ := o'.sl
    exact hK _ _ _ _ _ o' s'
theorem Step.setsR {S : Nat → Prop} {u u1 : U} {h h1 : H} {b o : Nat} {l : List Value} (s : Step S u h u1 h1) (hb : h.size ≤ b ∨ S b) (hu : u1 b ≤ o) (hl : o + l.length ≤ hsz h1 b) : Step S u h u1 (hsets h1 b o l) :=
  s.trans (Step.sets (S := fun i => i = b) u1 h1 l rfl hu hl) (fun i hi e => by
    subst e
    rcases hb with hb | hb
    · omega
    · exact hb)
theorem Blk.sets {u : U} {h : H} {b : Nat} {cs l : List Value} (k : Blk u h b cs) (hl : l.length = cs.length) : Blk u (hsets h b 0 l) b l := by
  obtain ⟨k1, k2, k3, k4, k5⟩ := k
  refine ⟨by rw [hsets_size]; exact k1, by rw [hsets_hsz, k2, hl], by rw [hsets_hfr]; exact k3, k4, fun i v hv => ?_⟩
  have hi := (List.getElem?_eq_some_iff.1 hv).1
  rw [hsets_hv _ _ _ _ _ (by omega), if_pos (by omega), Nat.sub_zero, List.getD_eq_getElem?_getD, hv]; rfl
theorem Blk.set {u : U} {h : H} {b i : Nat} {cs : List Value} {v : Value} (k : Blk u h b cs) (hi : i < cs.length) : Blk u (hset h b i v) b (cs.set i v) := by
  obtain ⟨k1, k2, k3, k4, k5⟩ := k
  refine ⟨by rw [e_ssz]; exact k1, by rw [e_hszs, k2, List.length_set], by rw [e_hfrs]; exact k3, k4, fun j w hw => ?_⟩
  rw [List.getElem?_set] at hw
  by_cases e : i = j
  · subst e
    rw [if_pos rfl, if_pos hi] at hw
    rw [e_hvs (by omega), if_pos ⟨rfl, rfl⟩]; simpa using hw
  · rw [if_neg e] at hw
    rw [hset_hv (.inr (Ne.symm e))]; exact k5 j w hw
theorem Blk.pushR {u : U} {h : H} {b : Nat} {cs : List Value} {c : Array Value} {t : TypeId} (k : Blk u h b cs) : Blk (ub u h.size 0) (h.push (.cells c t)) b cs := k.step0 (Step.push S0 u h c t 0)
/-- Some slots hold what they held. -/
def keepE (σ σ' : Env) : List Nat → Prop
  | [] => True
  | i :: l => σ' i = σ i ∧ keepE σ σ' l
theorem keep_0 {σ σ' : Env} : keepE σ σ' [] = True := (rfl)
theorem keep_1 {σ σ' : Env} {i : Nat} {l : List Nat} : keepE σ σ' (i :: l) = (σ' i = σ i ∧ keepE σ σ' l) := (rfl)
attribute [go_sem] keep_0 keep_1
end Go.Ev
namespace Go.Ev
open Go Rep
theorem effS_callv {G : Ctr} {g : FuncId} {d : Option Nat} {st : Stab} {r : List St} {K : Env → H → Prop} {KP : List PanicEntry → H → Prop} {vs : List Value} {σ : Env} {h : H}
    (hc : G g vs h (fun v h' => stabP st σ h h' ∧ wpSts G r K KP (updo σ d v) h') KP) : effS G .callv d st r K KP (.func (.func g) #[] #[] :: vs) σ h := by
  simpa [effS, fpre] using hc
/-- []byte(s). -/
theorem effS_s2b {G : Ctr} {e : TypeId} {d : Option Nat} {st : Stab} {r : List St} {K : Env → H → Prop} {KP : List PanicEntry → H → Prop} {s : List UInt8} {σ : Env} {h : H} (u : U) (hl : s.length ≤ 9223372036854775807)
    (hK : ∀ cap u' h', s.length ≤ cap → Step S0 u h u' h' → h.size < h'.size → s.length ≤ hsz h' h.size → (∀ (j : Nat) (b : UInt8), s[j]? = some b → Go.Ev.hv h' h.size j = .int .u8 b.toNat) →
      stabP st σ h h' ∧ wpSts G r K KP (updo σ d (.slice (some ⟨h.size, 0, none⟩) s.length cap)) h') : effS G (.s2b e) d st r K KP [str s] σ h := by
  refine ⟨rfl, hl, fun cap h1 h2 => ?_⟩
  rw [bl_str]
  refine hK cap _ _ h1 (Step.pushf S0 u h _ e (cap, cap + 1) 0) (by simp) ?_ (fun j b hb => ?_)
  · rw [e_hszpe rfl]; simp
  · rw [e_hvpe rfl, List.getD_eq_getElem?_getD, List.getElem?_append_left (by have := (List.getElem?_eq_some_iff.1 hb).1; simpa using this), List.getElem?_map, hb]
    rfl
end Go.Ev
namespace Go.Ev
open Go Rep
/-! ### Maps from texts to integers -/
/-- Block b is a map of n keys: m tells what lies at each. -/
def MapB (h : H) (b : Nat) (m : List UInt8 → Option Int) (n : Nat) : Prop := ∃ a c, h[b]? = some (.map a c) ∧ a.size = n ∧ (a.toList.map (·.key)).Nodup ∧ (∀ x ∈ a.toList, ∃ s v, x.key = str s ∧ x.val = .int .i64 v ∧ m s = some v) ∧ ∀ s v, m s = some v → ∃ x ∈ a.toList, x.key = str s
theorem str_ne {a b : List UInt8} (h : a ≠ b) : str a ≠ str b := fun e => h (by simpa [str] using e)
theorem str_inj' {a b : List UInt8} (h : str a = str b) : a = b := by simpa [str] using h
theorem MapB.lt {h : H} {b : Nat} {m : List UInt8 → Option Int} {n : Nat} (k : MapB h b m n) : b < h.size := by
  obtain ⟨a, c, hb, _⟩ := k
  exact (Array.getElem?_eq_some_iff.1 hb).1
theorem MapB.step {S : Nat → Prop} {u u' : U} {h h' : H} {b : Nat} {m : List UInt8 → Option Int} {n : Nat} (k : MapB h b m n) (s : Step S u h u' h') (hn : ¬ S b) : MapB h' b m n := by
  have hl := k.lt
  obtain ⟨a, c, hb, k'⟩ := k
  exact ⟨a, c, by rw [(s.same b hl hn).1]; exact hb, k'⟩
theorem Step.pushO (S : Nat → Prop) (u : U) (h : H) (x : Obj) : Step S u h (ub u h.size 0) (h.push x) := by
  refine ⟨⟨by simp, fun b hb => ?_, fun b hb => ⟨e_hszp hb, e_hfrp hb⟩, fun b hb o _ => e_hvp hb⟩, fun b hb _ => ⟨hget_push (by omega), ?_⟩⟩
  · unfold ub; rw [if_neg (by omega)]; exact Nat.le_refl _
  · unfold ub; rw [if_neg (by omega)]
theorem setm_get {h : H} {b k : Nat} {x : Obj} (hb : b < h.size) : (h.setIfInBounds b x)[k]? = if k = b then some x else h[k]? := by
  by_cases e : k = b
  · subst e; simp [hb]
  · rw [if_neg e, Array.getElem?_setIfInBounds_ne (Ne.symm e)]
theorem Step.setm {S : Nat → Prop} (u : U) {h : H} {b : Nat} {a a' : Array MapEntry} {c c' : Nat} (hb : h[b]? = some (.map a c)) (hS : S b) : Step S u h u (h.setIfInBounds b (.map a' c')) := by
  have hl := (Array.getElem?_eq_some_iff.1 hb).1
  refine ⟨⟨by simp, fun _ _ => Nat.le_refl _, fun i _ => ?_, fun i _ j _ => ?_⟩, fun i _ hn => ⟨?_, rfl⟩⟩
  · unfold hsz hfr
    rw [setm_get hl]
    by_cases e : i = b
    · subst e; rw [if_pos rfl, hb]; exact ⟨rfl, rfl⟩
    · rw [if_neg e]; exact ⟨rfl, rfl⟩
  · unfold Go.Ev.hv hc
    rw [setm_get hl]
    by_cases e : i = b
    · subst e; rw [if_pos rfl, hb]
    · rw [if_neg e]
  · rw [setm_get hl, if_neg (by rintro rfl; exact hn hS)]
def putm (m : List UInt8 → Option Int) (s : List UInt8) (v : Int) : List UInt8 → Option Int := fun t => if t = s then some v else m t
theorem MapB.keys {h : H} {b : Nat} {m : List UInt8 → Option Int} {n : Nat} {a : Array MapEntry} {c : Nat} (k1 : ∀ x ∈ a.toList, ∃ s v, x.key = str s ∧ x.val = .int .i64 v ∧ m s = some v) : ∀ x ∈ a.toList, MapKept.IsKey .string x.key := fun x hx => by
  obtain ⟨s, v, e, _⟩ := k1 x hx
  rw [e]; trivial
section
variable {G : Ctr} {d : Option Nat} {st : Stab} {r : List St} {K : Env → H → Prop} {KP : List PanicEntry → H → Prop} {σ : Env} {h : H}
theorem effS_mkm (u : U) (hK : ∀ u' h', Step S0 u h u' h' → MapB h' h.size (fun _ => none) 0 → stabP st σ h h' ∧ wpSts G r K KP (updo σ d (.map (some h.size))) h') : effS G .mkm d st r K KP [] σ h :=
  hK _ _ (Step.pushO S0 u h (.map #[] 0)) ⟨#[], 0, by simp, rfl, by simp, fun x hx => by simp at hx, fun s v hv => by cases hv⟩
theorem effS_look {b n : Nat} {m : List UInt8 → Option Int} {s : List UInt8} {ok : Bool} (k : MapB h b m n) (hK : stabP st σ h h ∧ wpSts G r K KP (updo σ d (lookV (.int .i64 ((m s).getD 0)) ok (m s).isSome)) h) :
    effS G (.look .string (.int .i64 0) ok) d st r K KP [.map (some b), str s] σ h := by
  obtain ⟨a, c, hb, hn, knd, k1, k2⟩ := k
  refine ⟨a.toList, ⟨a, c, hb, rfl⟩, trivial, MapB.keys (h := h) (b := b) (n := n) (c := c) k1, fun e he hk => ?_, fun hno => ?_⟩
  · obtain ⟨t, v, e1, e2, e3⟩ := k1 e he
    have : t = s := str_inj' (e1.symm.trans hk)
    subst this
    rw [e3] at hK
    rw [e2]; exact hK
  · cases hm : m s with
    | none => rw [hm] at hK; exact hK
    | some v =>
      obtain ⟨x, hx, hk⟩ := k2 s v hm
      exact absurd hk (hno x hx)
theorem effS_lenm {b n : Nat} {m : List UInt8 → Option Int} (k : MapB h b m n) (hK : stabP st σ h h ∧ wpSts G r K KP (updo σ d (.int .i64 n)) h) : effS G .lenm d st r K KP [.map (some b)] σ h := by
  obtain ⟨a, c, hb, hn, knd, k1, k2⟩ := k
  refine ⟨a.toList, ⟨a, c, hb, rfl⟩, ?_⟩
  rw [Array.length_toList, hn]; exact hK
theorem effS_mput {b n : Nat} {m : List UInt8 → Option Int} {s : List UInt8} {v : Int} (u : U) (k : MapB h b m n)
    (hK : ∀ h', Step (fun i => i = b) u h u h' → MapB h' b (putm m s v) (if (m s).isSome then n else n + 1) → stabP st σ h h' ∧ wpSts G r K KP (updo σ d undef) h') :
    effS G (.mput .string) d st r K KP [.map (some b), str s, .int .i64 v] σ h := by
  have hl := k.lt
  obtain ⟨a, c, hb, hn, knd, k1, k2⟩ := k
  refine ⟨b, a, c, rfl, hb, trivial, MapB.keys (h := h) (b := b) (n := n) (c := c) k1, fun i e he hk => ?_, fun hno => ?_⟩
  · refine hK _ (Step.setm u hb rfl) ?_
    obtain ⟨t, w, e1, e2, e3⟩ := k1 e (by rw [← Array.getElem?_toList] at he; exact List.mem_of_getElem? he)
    have : t = s := str_inj' (e1.symm.trans hk)
    subst this
    rw [e3]
    have hkeys : (a.modify i fun x => { x with key := str t, val := .int .i64 v }).toList.map (·.key) = a.toList.map (·.key) := MapKept.modify_keys i _ (fun e' he' => by rw [he] at he'; cases he'; exact e1.symm)
    refine ⟨_, c, by rw [setm_get hl, if_pos rfl], by simpa using hn, by rw [hkeys]; exact knd, fun x hx => ?_, fun t' v' hv' => ?_⟩
    · rw [Array.toList_modify] at hx
      obtain ⟨j, hj, rfl⟩ := List.mem_iff_getElem.1 hx
      rw [List.getElem_modify]
      have hj' : j < a.toList.length := by simpa using hj
      by_cases hij : i = j
      · rw [if_pos hij]
        exact ⟨t, v, rfl, rfl, by simp [putm]⟩
      · rw [if_neg hij]
        obtain ⟨t', w', q1, q2, q3⟩ := k1 a.toList[j] (List.getElem_mem hj')
        by_cases ht : t' = t
        · subst ht
          exfalso
          have hi' : i < a.toList.length := by rw [Array.length_toList]; exact (Array.getElem?_eq_some_iff.1 he).1
          have hei : a.toList[i] = e := by
            have := (Array.getElem?_eq_some_iff.1 he).2
            simpa using this
          exact hij ((List.getElem_inj (h₀ := by simpa using hi') (h₁ := by simpa using hj') knd).1 (by simp only [List.getElem_map]; rw [hei, e1, q1]))
        · exact ⟨t', w', q1, q2, by simp [putm, ht, q3]⟩
    · unfold putm at hv'
      have hmem : ∃ x ∈ a.toList, x.key = str t' := by
        by_cases ht : t' = t
        · subst ht; exact k2 t' w e3
        · rw [if_neg ht] at hv'; exact k2 t' v' hv'
      obtain ⟨x, hx, hxk⟩ := hmem
      have : str t' ∈ (a.modify i fun x => { x with key := str t, val := .int .i64 v }).toList.map (·.key) := by rw [hkeys]; exact List.mem_map.2 ⟨x, hx, hxk⟩
      obtain ⟨y, hy, hyk⟩ := List.mem_map.1 this
      exact ⟨y, hy, hyk⟩
  · have hm : m s = none := by
      cases hm : m s with
      | none => rfl
      | some w => obtain ⟨x, hx, hk⟩ := k2 s w hm; exact absurd hk (hno x hx)
    refine hK _ (Step.setm u hb rfl) ?_
    rw [hm]
    refine ⟨_, c + 1, by rw [setm_get hl, if_pos rfl], by simp [hn], ?_, fun x hx => ?_, fun t' v' hv' => ?_⟩
    · rw [Array.toList_push, List.map_append]
      refine List.nodup_append.2 ⟨knd, by simp, fun x hx y hy => ?_⟩
      simp only [List.map_cons, List.map_nil, List.mem_singleton] at hy
      subst hy
      obtain ⟨e, he, rfl⟩ := List.mem_map.1 hx
      exact hno e he
    · rw [Array.toList_push, List.mem_append, List.mem_singleton] at hx
      rcases hx with hx | rfl
      · obtain ⟨t', w', q1, q2, q3⟩ := k1 x hx
        have ht : t' ≠ s := fun q => hno x hx (by rw [q1, q])
        exact ⟨t', w', q1, q2, by simp [putm, ht, q3]⟩
      · exact ⟨s, v, rfl, rfl, by simp [putm]⟩
    · unfold putm at hv'
      rw [Array.toList_push]
      by_cases ht : t' = s
      · subst ht; exact ⟨_, List.mem_append.2 (.inr (List.mem_singleton.2 rfl)), rfl⟩
      · rw [if_neg ht] at hv'
        obtain ⟨x, hx, hk⟩ := k2 t' v' hv'
        exact ⟨x, by simp only [List.mem_append]; exact .inl hx, hk⟩
end
end Go.Ev
namespace Go.Ev
open Go Rep
/-- append of a row that was laid into a new block, whose number is told apart. -/
theorem effS_app1p {α : Type} [Rep α] {G : Ctr} {e e' : TypeId} {bytes s : Nat} {z cs : List Value} {k p : Nat} {u : U} {h : H} {v : Value} {l : List α} {x : α} {d : Option Nat} {st : Stab} {r : List St} {K : Env → H → Prop} {KP : List PanicEntry → H → Prop} {σ : Env}
    (hp : p = h.size) (ho : Own k u h v l) (hx : rep u h x cs) (hs : s = sz α) (hz : z.length = sz α) (hk : k ≤ h.size) (hb : (l.length + 1) * bytes ≤ 140737488355328)
    (hK : ∀ a n c u' h', Own k u' h' (.slice a n c) (l ++ [x]) → Step (OwnB v) u h u' h' → stabP st σ (h.push (.cells cs.toArray e')) h' ∧ wpSts G r K KP (updo σ d (.slice a n c)) h') :
    effS G (.app e s bytes z) d st r K KP [v, .slice (some ⟨p, 0, none⟩) 1 1] σ (h.push (.cells cs.toArray e')) := by
  subst hp; exact effS_app1 ho hx hs hz hk hb hK
end Go.Ev
