/- What the places of a text are, in lex and in the reference. -/
import Derived.Test.YtbkpmdgeeolifaaDoorPlaceS
import Derived.Test.YtbkpmdgeeolifaaDoorLexP
import Derived.Test.YtbkpmdgeeolifaaDoorEnd
import Derived.Lib.Bytealg
namespace Go.Proofs.YtbkpmdgeeolifaaDoor
open Go Go.Ev Edict

/-- Line feeds in a text, and where its last line begins. -/
def col (s : List UInt8) : Nat → Nat × Nat
  | 0 => (1, 1)
  | k + 1 => if bat s k = 10 then ((col s k).1 + 1, 1) else ((col s k).1, (col s k).2 + 1)
theorem col_le (s : List UInt8) : ∀ k, 1 ≤ (col s k).1 ∧ (col s k).1 ≤ k + 1 ∧ 1 ≤ (col s k).2 ∧ (col s k).2 ≤ k + 1
  | 0 => by simp [col]
  | k + 1 => by have := col_le s k; unfold col; split <;> simp only <;> omega
def placeF (s : List UInt8) (o : Int) : Int × Int := if s.length ≤ 65536 ∧ 0 ≤ o ∧ o ≤ s.length then ((col s o.toNat).1, (col s o.toNat).2) else (0, 0)

def C_rfPlace (vs : List Value) (h : H) (K : Value → H → Prop) : Prop := ∃ (s : List UInt8) (o : Int), vs = [str s, .int .i64 o] ∧ s.length ≤ 9223372036854775807 ∧ K (.tuple #[.int .i64 (placeF s o).1, .int .i64 (placeF s o).2]) h
theorem rfPlace_ok {vs : List Value} {h : H} {K : Value → H → Prop} {KP : List PanicEntry → H → Prop} (hC : C_rfPlace vs h K) : HCX Tryd.prog 67 vs h K KP := by
  obtain ⟨s, o, rfl, hs, hK⟩ := hC
  refine rfPlace_H (fun _ _ _ _ _ => False) (fun _ _ _ _ _ h => h.elim) _ _ ?_
  simp (disch := first | omega | (simp only [e_ssz, e_psz, e_hszs, List.length_cons, List.length_nil]; try omega; done)) only [↓reduceIte, go_sem, rfPlace_S, rfPlace_E]
  refine ⟨fun hx => ?_, fun hx' => ?_⟩
  · unfold placeF at hK; rw [if_neg (by omega)] at hK; exact hK
  · obtain ⟨h1, h2, h3⟩ : (s.length : Int) ≤ 65536 ∧ 0 ≤ o ∧ o ≤ s.length := by refine ⟨?_, ?_, ?_⟩ <;> (apply Decidable.byContradiction; intro q; exact hx' (by omega))
    obtain ⟨n, rfl⟩ := Int.eq_ofNat_of_zero_le (show 0 ≤ o by omega)
    refine wpS_loop (fun (j : Nat) σ h' => σ 0 = str s ∧ σ 1 = .int .i64 n ∧ σ 6 = .int .i64 (col s j).1 ∧ σ 7 = .int .i64 (col s j).2 ∧ σ 8 = .int .i64 j ∧ h' = h ∧ j ≤ n) (fun j => n - j) 0 ⟨by simp [upd], by simp [upd], by simp [upd, col], by simp [upd, col], by simp [upd], rfl, by omega⟩ ?_
    rintro j σ h' ⟨e0, e1, e6, e7, e8, rfl, hj⟩
    have hc := col_le s j
    simp (disch := first | omega | (simp only [e_ssz, e_psz, e_hszs, List.length_cons, List.length_nil]; try omega; done)) only [↓reduceIte, go_sem, rfPlace_L1, e0, e1, e6, e7, e8]
    refine ⟨fun hlt => ⟨by omega, by omega, fun h10 => ⟨j + 1, ?_⟩, fun h10 => ⟨j + 1, ?_⟩⟩, fun hge => ?_⟩
    · have e : col s (j + 1) = ((col s j).1 + 1, 1) := by rw [col, if_pos (show bat s j = 10 by unfold bat; omega)]
      rw [e]; simp only; omega
    · have e : col s (j + 1) = ((col s j).1, (col s j).2 + 1) := by rw [col, if_neg (show ¬ bat s j = 10 by unfold bat; omega)]
      rw [e]; exact ⟨rfl, by simp, by simp, by omega, by omega⟩
    · obtain rfl : j = n := by omega
      unfold placeF at hK; rw [if_pos (by omega)] at hK; exact hK
def C_count (vs : List Value) (h : H) (K : Value → H → Prop) : Prop := ∃ (s : List UInt8) (c : UInt8), vs = [str s, .int .u8 c.toNat] ∧ K (.int .i64 (s.count c)) h
theorem count_ok {vs : List Value} {h : H} {K : Value → H → Prop} {KP : List PanicEntry → H → Prop} (hC : C_count vs h K) : HCX Tryd.prog 90 vs h K KP := by
  obtain ⟨s, c, rfl, hK⟩ := hC
  refine HCX.extern (e := Extern.BytealgCount.count) Tryd.func90 (by kernel_rfl) (by kernel_rfl) (by kernel_rfl) (by kernel_rfl) fun w hw => ?_
  refine ⟨_, w, Lib.run_countString _ _ w, .refl w, ?_⟩
  subst hw
  simpa [Lib.countByte] using hK
def C_stCount (vs : List Value) (h : H) (K : Value → H → Prop) : Prop := ∃ (s : List UInt8) (c : UInt8), vs = [str s, str [c]] ∧ K (.int .i64 (s.count c)) h
def G_stCount : Ctr := fun f vs h K _ => f = 90 ∧ C_count vs h K
theorem G_stCount_ok : GOk Tryd.prog G_stCount := by
  rintro f vs h K KP ⟨rfl, hC⟩; exact count_ok hC
theorem stCount_ok {vs : List Value} {h : H} {K : Value → H → Prop} {KP : List PanicEntry → H → Prop} (hC : C_stCount vs h K) : HCX Tryd.prog 78 vs h K KP := by
  obtain ⟨s, c, rfl, hK⟩ := hC
  refine stCount_H _ G_stCount_ok _ _ ?_
  simp (disch := first | omega | (simp only [e_ssz, e_psz, e_hszs, List.length_cons, List.length_nil]; try omega; done)) only [↓reduceIte, go_sem, e_call, stCount_S, stCount_E, G_stCount, C_count]
  exact ⟨c, rfl, hK⟩

/-- The last c ahead of n. -/
def lastL (s : List UInt8) (c : Nat) : Nat → Int
  | 0 => -1
  | k + 1 => if bat s k = c then k else lastL s c k
def C_last (vs : List Value) (h : H) (K : Value → H → Prop) : Prop := ∃ (s : List UInt8) (c : Nat), vs = [str s, .int .u8 c] ∧ s.length ≤ 9223372036854775807 ∧ K (.int .i64 (lastL s c s.length)) h
theorem last_ok {vs : List Value} {h : H} {K : Value → H → Prop} {KP : List PanicEntry → H → Prop} (hC : C_last vs h K) : HCX Tryd.prog 92 vs h K KP := by
  obtain ⟨s, c, rfl, hs, hK⟩ := hC
  refine baLastIndexByteString_H (fun _ _ _ _ _ => False) (fun _ _ _ _ _ h => h.elim) _ _ ?_
  simp (disch := first | omega | (simp only [e_ssz, e_psz, e_hszs, List.length_cons, List.length_nil]; try omega; done)) only [↓reduceIte, go_sem, baLastIndexByteString_S, baLastIndexByteString_E]
  refine wpS_loop (fun (j : Nat) σ h' => σ 0 = str s ∧ σ 1 = .int .u8 c ∧ σ 5 = .int .i64 ((j : Int) - 1) ∧ h' = h ∧ j ≤ s.length ∧ lastL s c j = lastL s c s.length) (fun j => j) s.length ⟨by simp [upd], by simp [upd], by simp [upd], rfl, by omega, rfl⟩ ?_
  rintro j σ h' ⟨e0, e1, e5, rfl, hj, he⟩
  simp (disch := first | omega | (simp only [e_ssz, e_psz, e_hszs, List.length_cons, List.length_nil]; try omega; done)) only [↓reduceIte, go_sem, baLastIndexByteString_L1, e0, e1, e5]
  refine ⟨fun hlt => ⟨by omega, by omega, fun hx => ?_, fun hx => ⟨j - 1, ?_, ?_, ?_, ?_⟩⟩, fun hge => ?_⟩
  · obtain ⟨j, rfl⟩ : ∃ i, j = i + 1 := ⟨j - 1, by omega⟩
    have e : ((j + 1 : Nat) : Int) - 1 = j := by omega
    rw [e] at hx ⊢
    simp only [Int.toNat_natCast] at hx
    rw [← he, lastL, if_pos (show bat s j = c by unfold bat; omega)] at hK
    exact hK
  · omega
  · omega
  · rw [← he]
    obtain ⟨j, rfl⟩ : ∃ i, j = i + 1 := ⟨j - 1, by omega⟩
    have e : (((j + 1 : Nat) : Int) - 1).toNat = j := by omega
    rw [e] at hx
    rw [Nat.add_sub_cancel, lastL, if_neg (show ¬ bat s j = c by unfold bat; omega)]
  · omega
  · obtain rfl : j = 0 := by omega
    rw [← he] at hK; exact hK
def G_stLast : Ctr := fun f vs h K _ => f = 92 ∧ C_last vs h K
theorem G_stLast_ok : GOk Tryd.prog G_stLast := by
  rintro f vs h K KP ⟨rfl, hC⟩; exact last_ok hC
theorem stLast_ok {vs : List Value} {h : H} {K : Value → H → Prop} {KP : List PanicEntry → H → Prop} (hC : C_last vs h K) : HCX Tryd.prog 79 vs h K KP := by
  obtain ⟨s, c, rfl, hs, hK⟩ := hC
  refine stLastIndexByte_H _ G_stLast_ok _ _ ?_
  simp (disch := first | omega | (simp only [e_ssz, e_psz, e_hszs, List.length_cons, List.length_nil]; try omega; done)) only [↓reduceIte, go_sem, e_call, stLastIndexByte_S, stLastIndexByte_E, G_stLast, C_last]
  exact ⟨hs, hK⟩
theorem col_one (s : List UInt8) : ∀ n, n ≤ s.length → (col s n).1 = 1 + (s.take n).count 10
  | 0, _ => by simp [col]
  | n + 1, h => by
    have ih := col_one s n (by omega)
    have e : s.take (n + 1) = s.take n ++ [s.getD n 0] := by
      rw [List.take_add_one, List.getD_eq_getElem?_getD, List.getElem?_eq_getElem (by omega)]; rfl
    rw [e, List.count_append, List.count_singleton, col]
    have hb : (bat s n = 10) ↔ (s.getD n 0 == 10) = true := by
      rw [beq_iff_eq, ← UInt8.toNat_inj]; rfl
    split <;> rename_i hc <;> simp only [ih]
    · rw [if_pos (hb.1 hc)]; omega
    · rw [if_neg (fun hx => hc (hb.2 hx))]; omega
theorem lastL_take (s : List UInt8) (c : Nat) (m : Nat) : ∀ n, n ≤ m → lastL (s.take m) c n = lastL s c n
  | 0, _ => rfl
  | n + 1, h => by
    have e : bat (s.take m) n = bat s n := by
      unfold bat
      rw [List.getD_eq_getElem?_getD, List.getD_eq_getElem?_getD, List.getElem?_take_of_lt (by omega)]
    rw [lastL, lastL, e, lastL_take s c m n (by omega)]
theorem col_two (s : List UInt8) : ∀ n, ((col s n).2 : Int) = n - lastL s 10 n
  | 0 => by simp [col, lastL]
  | n + 1 => by
    have ih := col_two s n
    rw [col, lastL]
    split <;> simp only <;> omega
def C_lxPlace (vs : List Value) (h : H) (K : Value → H → Prop) : Prop := ∃ (s : List UInt8) (o : Int), vs = [str s, .int .i64 o] ∧ s.length ≤ 9223372036854775807 ∧ K (.tuple #[.int .i64 (placeF s o).1, .int .i64 (placeF s o).2]) h
def G_lxPlace : Ctr := fun f vs h K _ => (f = 79 ∧ C_last vs h K) ∨ (f = 78 ∧ C_stCount vs h K)
theorem G_lxPlace_ok : GOk Tryd.prog G_lxPlace := by
  rintro f vs h K KP (⟨rfl, hC⟩ | ⟨rfl, hC⟩)
  · exact stLast_ok hC
  · exact stCount_ok hC
theorem lxPlace_ok {vs : List Value} {h : H} {K : Value → H → Prop} {KP : List PanicEntry → H → Prop} (hC : C_lxPlace vs h K) : HCX Tryd.prog 66 vs h K KP := by
  obtain ⟨s, o, rfl, hs, hK⟩ := hC
  refine lxPlace_H _ G_lxPlace_ok _ _ ?_
  simp (disch := first | omega | (simp only [e_ssz, e_psz, e_hszs, List.length_cons, List.length_nil]; try omega; done)) only [↓reduceIte, go_sem, e_call, lxPlace_S, lxPlace_E, G_lxPlace, C_last, C_stCount]
  refine ⟨fun hx => ?_, fun hx' => ?_⟩
  · unfold placeF at hK; rw [if_neg (by omega)] at hK; exact hK
  · obtain ⟨h1, h2, h3⟩ : (s.length : Int) ≤ 65536 ∧ 0 ≤ o ∧ o ≤ s.length := by refine ⟨?_, ?_, ?_⟩ <;> (apply Decidable.byContradiction; intro q; exact hx' (by omega))
    obtain ⟨n, rfl⟩ := Int.eq_ofNat_of_zero_le (show 0 ≤ o by omega)
    have hl := col_le s n
    refine ⟨by omega, by omega, 10, rfl, by simp only [List.length_take]; omega, ?_⟩
    have e1 := col_one s n (by omega)
    have e2 := col_two s n
    have e3 : (s.take n).length = n := by rw [List.length_take]; omega
    unfold placeF at hK; rw [if_pos (by omega)] at hK
    simp only [Int.toNat_natCast] at hK ⊢
    rw [e3, lastL_take s 10 n n (Nat.le_refl _), ← e2, show (1 : Int) + ((s.take n).count 10 : Nat) = ((col s n).1 : Nat) by omega, wr64 (by omega) (by omega), wr64 (by omega) (by omega)]
    exact hK
def G_LexPlace : Ctr := fun f vs h K _ => (f = 66 ∧ C_lxPlace vs h K) ∨ (f = 67 ∧ C_rfPlace vs h K)
theorem G_LexPlace_ok : GOk Tryd.prog G_LexPlace := by
  rintro f vs h K KP (⟨rfl, hC⟩ | ⟨rfl, hC⟩)
  · exact lxPlace_ok hC
  · exact rfPlace_ok hC
theorem LexPlace_hc (s : List UInt8) (a : Int) (h : H) (hs : s.length ≤ 9223372036854775807) : HCX Tryd.prog 44 [str s, .int .i64 a] h (fun v h' => v = .bool true ∧ Ext h h') fun _ _ => False := by
  refine LexPlace_H _ G_LexPlace_ok _ _ ?_
  simp (disch := first | omega | (simp only [e_ssz, e_psz, e_hszs, List.length_cons, List.length_nil]; try omega; done)) only [↓reduceIte, go_sem, e_call, LexPlace_S, LexPlace_E, G_LexPlace, C_lxPlace, C_rfPlace]
  exact ⟨hs, hs, .refl h⟩

end Go.Proofs.YtbkpmdgeeolifaaDoor
