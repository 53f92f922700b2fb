/- What the places of a text are, in lex and in the reference. -/
import Derived.Test.YtfgnpcckamlnaaaPlaceS
import Derived.Test.YtfgnpcckamlnaaaLexP
import Derived.Test.YtfgnpcckamlnaaaEnd
import Derived.Lib.Bytealg
namespace Go.Proofs.Ytfgnpcckamlnaaa
open Go Go.Ev Edict

/-- Line feeds in a text, and where its last line begins. -/
def col (s : List UInt8) : Nat → Nat × Nat
  | 0 => (1, 1)
  | k + 1 => if bat s k = 10 then ((col s k).1 + 1, 1) else ((col s k).1, (col s k).2 + 1)
theorem col_le (s : List UInt8) : ∀ k, 1 ≤ (col s k).1 ∧ (col s k).1 ≤ k + 1 ∧ 1 ≤ (col s k).2 ∧ (col s k).2 ≤ k + 1
  | 0 => by simp [col]
  | k + 1 => by have := col_le s k; unfold col; split <;> simp only <;> omega
def placeF (s : List UInt8) (o : Int) : Int × Int := if s.length ≤ 65536 ∧ 0 ≤ o ∧ o ≤ s.length then ((col s o.toNat).1, (col s o.toNat).2) else (0, 0)

def C_rfPlace (vs : List Value) (h : H) (K : Value → H → Prop) : Prop := ∃ (s : List UInt8) (o : Int), vs = [str s, .int .i64 o] ∧ s.length ≤ 9223372036854775807 ∧ K (.tuple #[.int .i64 (placeF s o).1, .int .i64 (placeF s o).2]) h
theorem rfPlace_ok {vs : List Value} {h : H} {K : Value → H → Prop} {KP : List PanicEntry → H → Prop} (hC : C_rfPlace vs h K) : HCX Try.prog 9 vs h K KP := by
  obtain ⟨s, o, rfl, hs, hK⟩ := hC
  refine rfPlace_H (fun _ _ _ _ _ => False) (fun _ _ _ _ _ h => h.elim) _ _ ?_
  simp (disch := first | omega | (simp only [e_ssz, e_psz, e_hszs, List.length_cons, List.length_nil]; omega)) only [↓reduceIte, go_sem, rfPlace_S, rfPlace_E]
  refine ⟨fun hx => ?_, fun ⟨h1, h2, h3⟩ => ?_⟩
  · unfold placeF at hK; rw [if_neg (by omega)] at hK; exact hK
  · obtain ⟨n, rfl⟩ := Int.eq_ofNat_of_zero_le (show 0 ≤ o by omega)
    refine wpS_loop (fun (j : Nat) σ h' => σ 0 = str s ∧ σ 1 = .int .i64 n ∧ σ 6 = .int .i64 (col s j).1 ∧ σ 7 = .int .i64 (col s j).2 ∧ σ 8 = .int .i64 j ∧ h' = h ∧ j ≤ n) (fun j => n - j) 0 ⟨by simp [upd], by simp [upd], by simp [upd, col], by simp [upd, col], by simp [upd], rfl, by omega⟩ ?_
    rintro j σ h' ⟨e0, e1, e6, e7, e8, rfl, hj⟩
    have hc := col_le s j
    simp (disch := first | omega | (simp only [e_ssz, e_psz, e_hszs, List.length_cons, List.length_nil]; omega)) only [↓reduceIte, go_sem, rfPlace_L1, e0, e1, e6, e7, e8]
    refine ⟨fun hlt => ⟨by omega, by omega, fun h10 => ⟨j + 1, ?_⟩, fun h10 => ⟨j + 1, ?_⟩⟩, fun hge => ?_⟩
    · have e : col s (j + 1) = ((col s j).1 + 1, 1) := by rw [col, if_pos (show bat s j = 10 by unfold bat; omega)]
      rw [e]; simp only; omega
    · have e : col s (j + 1) = ((col s j).1, (col s j).2 + 1) := by rw [col, if_neg (show ¬ bat s j = 10 by unfold bat; omega)]
      rw [e]; exact ⟨rfl, by simp, by simp, by omega, by omega⟩
    · obtain rfl : j = n := by omega
      unfold placeF at hK; rw [if_pos (by omega)] at hK; exact hK
def C_count (vs : List Value) (h : H) (K : Value → H → Prop) : Prop := ∃ (s : List UInt8) (c : UInt8), vs = [str s, .int .u8 c.toNat] ∧ K (.int .i64 (s.count c)) h
theorem count_ok {vs : List Value} {h : H} {K : Value → H → Prop} {KP : List PanicEntry → H → Prop} (hC : C_count vs h K) : HCX Try.prog 21 vs h K KP := by
  obtain ⟨s, c, rfl, hK⟩ := hC
  refine HCX.extern (e := Extern.BytealgCount.count) Try.func21 (by kernel_rfl) (by kernel_rfl) (by kernel_rfl) (by kernel_rfl) fun w hw => ?_
  refine ⟨_, w, Lib.run_countString _ _ w, .refl w, ?_⟩
  subst hw
  simpa [Lib.countByte] using hK
def C_stCount (vs : List Value) (h : H) (K : Value → H → Prop) : Prop := ∃ (s : List UInt8) (c : UInt8), vs = [str s, str [c]] ∧ K (.int .i64 (s.count c)) h
def G_stCount : Ctr := fun f vs h K _ => f = 21 ∧ C_count vs h K
theorem G_stCount_ok : GOk Try.prog G_stCount := by
  rintro f vs h K KP ⟨rfl, hC⟩; exact count_ok hC
theorem stCount_ok {vs : List Value} {h : H} {K : Value → H → Prop} {KP : List PanicEntry → H → Prop} (hC : C_stCount vs h K) : HCX Try.prog 13 vs h K KP := by
  obtain ⟨s, c, rfl, hK⟩ := hC
  refine stCount_H _ G_stCount_ok _ _ ?_
  simp (disch := first | omega | (simp only [e_ssz, e_psz, e_hszs, List.length_cons, List.length_nil]; omega)) only [↓reduceIte, go_sem, stCount_S, stCount_E, G_stCount, C_count]
  exact ⟨c, rfl, hK⟩

/-- The last c ahead of n. -/
def lastL (s : List UInt8) (c : Nat) : Nat → Int
  | 0 => -1
  | k + 1 => if bat s k = c then k else lastL s c k
def C_last (vs : List Value) (h : H) (K : Value → H → Prop) : Prop := ∃ (s : List UInt8) (c : Nat), vs = [str s, .int .u8 c] ∧ s.length ≤ 9223372036854775807 ∧ K (.int .i64 (lastL s c s.length)) h
theorem last_ok {vs : List Value} {h : H} {K : Value → H → Prop} {KP : List PanicEntry → H → Prop} (hC : C_last vs h K) : HCX Try.prog 23 vs h K KP := by
  obtain ⟨s, c, rfl, hs, hK⟩ := hC
  refine baLastIndexByteString_H (fun _ _ _ _ _ => False) (fun _ _ _ _ _ h => h.elim) _ _ ?_
  simp (disch := first | omega | (simp only [e_ssz, e_psz, e_hszs, List.length_cons, List.length_nil]; omega)) only [↓reduceIte, go_sem, baLastIndexByteString_S, baLastIndexByteString_E]
  refine wpS_loop (fun (j : Nat) σ h' => σ 0 = str s ∧ σ 1 = .int .u8 c ∧ σ 5 = .int .i64 ((j : Int) - 1) ∧ h' = h ∧ j ≤ s.length ∧ lastL s c j = lastL s c s.length) (fun j => j) s.length ⟨by simp [upd], by simp [upd], by simp [upd], rfl, by omega, rfl⟩ ?_
  rintro j σ h' ⟨e0, e1, e5, rfl, hj, he⟩
  simp (disch := first | omega | (simp only [e_ssz, e_psz, e_hszs, List.length_cons, List.length_nil]; omega)) only [↓reduceIte, go_sem, baLastIndexByteString_L1, e0, e1, e5]
  refine ⟨fun hlt => ⟨by omega, by omega, fun hx => ?_, fun hx => ⟨j - 1, ?_, ?_, ?_, ?_⟩⟩, fun hge => ?_⟩
  · obtain ⟨j, rfl⟩ : ∃ i, j = i + 1 := ⟨j - 1, by omega⟩
    have e : ((j + 1 : Nat) : Int) - 1 = j := by omega
    rw [e] at hx ⊢
    simp only [Int.toNat_natCast] at hx
    rw [← he, lastL, if_pos (show bat s j = c by unfold bat; omega)] at hK
    exact hK
  · omega
  · omega
  · rw [← he]
    obtain ⟨j, rfl⟩ : ∃ i, j = i + 1 := ⟨j - 1, by omega⟩
    have e : (((j + 1 : Nat) : Int) - 1).toNat = j := by omega
    rw [e] at hx
    rw [Nat.add_sub_cancel, lastL, if_neg (show ¬ bat s j = c by unfold bat; omega)]
  · omega
  · obtain rfl : j = 0 := by omega
    rw [← he] at hK; exact hK
def G_stLast : Ctr := fun f vs h K _ => f = 23 ∧ C_last vs h K
theorem G_stLast_ok : GOk Try.prog G_stLast := by
  rintro f vs h K KP ⟨rfl, hC⟩; exact last_ok hC
theorem stLast_ok {vs : List Value} {h : H} {K : Value → H → Prop} {KP : List PanicEntry → H → Prop} (hC : C_last vs h K) : HCX Try.prog 14 vs h K KP := by
  obtain ⟨s, c, rfl, hs, hK⟩ := hC
  refine stLastIndexByte_H _ G_stLast_ok _ _ ?_
  simp (disch := first | omega | (simp only [e_ssz, e_psz, e_hszs, List.length_cons, List.length_nil]; omega)) only [↓reduceIte, go_sem, stLastIndexByte_S, stLastIndexByte_E, G_stLast, C_last]
  exact ⟨hs, hK⟩
theorem col_one (s : List UInt8) : ∀ n, n ≤ s.length → (col s n).1 = 1 + (s.take n).count 10
  | 0, _ => by simp [col]
  | n + 1, h => by
    have ih := col_one s n (by omega)
    have e : s.take (n + 1) = s.take n ++ [s.getD n 0] := by
      rw [List.take_add_one, List.getD_eq_getElem?_getD, List.getElem?_eq_getElem (by omega)]; rfl
    rw [e, List.count_append, List.count_singleton, col]
    have hb : (bat s n = 10) ↔ (s.getD n 0 == 10) = true := by
      rw [beq_iff_eq, ← UInt8.toNat_inj]; rfl
    split <;> rename_i hc <;> simp only [ih]
    · rw [if_pos (hb.1 hc)]; omega
    · rw [if_neg (fun hx => hc (hb.2 hx))]; omega
theorem lastL_take (s : List UInt8) (c : Nat) (m : Nat) : ∀ n, n ≤ m → lastL (s.take m) c n = lastL s c n
  | 0, _ => rfl
  | n + 1, h => by
    have e : bat (s.take m) n = bat s n := by
      unfold bat
      rw [List.getD_eq_getElem?_getD, List.getD_eq_getElem?_getD, List.getElem?_take_of_lt (by omega)]
    rw [lastL, lastL, e, lastL_take s c m n (by omega)]
theorem col_two (s : List UInt8) : ∀ n, ((col s n).2 : Int) = n - lastL s 10 n
  | 0 => by simp [col, lastL]
  | n + 1 => by
    have ih := col_two s n
    rw [col, lastL]
    split <;> simp only <;> omega
def C_lxPlace (vs : List Value) (h : H) (K : Value → H → Prop) : Prop := ∃ (s : List UInt8) (o : Int), vs = [str s, .int .i64 o] ∧ s.length ≤ 9223372036854775807 ∧ K (.tuple #[.int .i64 (placeF s o).1, .int .i64 (placeF s o).2]) h
def G_lxPlace : Ctr := fun f vs h K _ => (f = 14 ∧ C_last vs h K) ∨ (f = 13 ∧ C_stCount vs h K)
theorem G_lxPlace_ok : GOk Try.prog G_lxPlace := by
  rintro f vs h K KP (⟨rfl, hC⟩ | ⟨rfl, hC⟩)
  · exact stLast_ok hC
  · exact stCount_ok hC
theorem lxPlace_ok {vs : List Value} {h : H} {K : Value → H → Prop} {KP : List PanicEntry → H → Prop} (hC : C_lxPlace vs h K) : HCX Try.prog 8 vs h K KP := by
  obtain ⟨s, o, rfl, hs, hK⟩ := hC
  refine lxPlace_H _ G_lxPlace_ok _ _ ?_
  simp (disch := first | omega | (simp only [e_ssz, e_psz, e_hszs, List.length_cons, List.length_nil]; omega)) only [↓reduceIte, go_sem, lxPlace_S, lxPlace_E, G_lxPlace, C_last, C_stCount]
  refine ⟨fun hx => ?_, fun ⟨h1, h2, h3⟩ => ?_⟩
  · unfold placeF at hK; rw [if_neg (by omega)] at hK; exact hK
  · obtain ⟨n, rfl⟩ := Int.eq_ofNat_of_zero_le (show 0 ≤ o by omega)
    have hl := col_le s n
    refine ⟨by omega, by omega, 10, rfl, by simp only [List.length_take]; omega, ?_⟩
    have e1 := col_one s n (by omega)
    have e2 := col_two s n
    have e3 : (s.take n).length = n := by rw [List.length_take]; omega
    unfold placeF at hK; rw [if_pos (by omega)] at hK
    simp only [Int.toNat_natCast] at hK ⊢
    rw [e3, lastL_take s 10 n n (Nat.le_refl _), ← e2, show (1 : Int) + ((s.take n).count 10 : Nat) = ((col s n).1 : Nat) by omega, wr64 (by omega) (by omega), wr64 (by omega) (by omega)]
    exact hK
def G_LexPlace : Ctr := fun f vs h K _ => (f = 8 ∧ C_lxPlace vs h K) ∨ (f = 9 ∧ C_rfPlace vs h K)
theorem G_LexPlace_ok : GOk Try.prog G_LexPlace := by
  rintro f vs h K KP (⟨rfl, hC⟩ | ⟨rfl, hC⟩)
  · exact lxPlace_ok hC
  · exact rfPlace_ok hC
theorem LexPlace_hc (s : List UInt8) (a : Int) (h : H) (hs : s.length ≤ 9223372036854775807) : HCX Try.prog 4 [str s, .int .i64 a] h (fun v h' => v = .bool true ∧ Ext h h') fun _ _ => False := by
  refine LexPlace_H _ G_LexPlace_ok _ _ ?_
  simp (disch := first | omega | (simp only [e_ssz, e_psz, e_hszs, List.length_cons, List.length_nil]; omega)) only [↓reduceIte, go_sem, LexPlace_S, LexPlace_E, G_LexPlace, C_lxPlace, C_rfPlace]
  exact ⟨hs, hs, .refl h⟩

/-! ### Place by place -/
def G_Places : Ctr := fun f vs h K _ => f = 8 ∧ C_lxPlace vs h K
theorem G_Places_ok : GOk Try.prog G_Places := by
  rintro f vs h K KP ⟨rfl, hC⟩; exact lxPlace_ok hC
theorem placeF_in {s : List UInt8} {o : Int} (n : Nat) (h : s.length ≤ 65536) (ho : o = n) (hn : n ≤ s.length) : placeF s o = ((((col s n).1 : Nat) : Int), (((col s n).2 : Nat) : Int)) := by
  subst ho; unfold placeF; rw [if_pos (by omega)]; simp
theorem placeF_out {s : List UInt8} {o : Int} (h : ¬ (s.length ≤ 65536 ∧ 0 ≤ o ∧ o ≤ s.length)) : placeF s o = (0, 0) := by
  unfold placeF; rw [if_neg h]
theorem col_lf {s : List UInt8} {j : Nat} (h : bat s j = 10) : col s (j + 1) = ((col s j).1 + 1, 1) := by rw [col, if_pos h]
theorem col_on {s : List UInt8} {j : Nat} (h : ¬ bat s j = 10) : col s (j + 1) = ((col s j).1, (col s j).2 + 1) := by rw [col, if_neg h]
def C_placesEnd (vs : List Value) (h : H) (K : Value → H → Prop) : Prop := ∃ (s : List UInt8), vs = [str s] ∧ 401 < s.length ∧ s.length ≤ 65536 ∧ K (.bool true) h
theorem placesEnd_ok {vs : List Value} {h : H} {K : Value → H → Prop} {KP : List PanicEntry → H → Prop} (hC : C_placesEnd vs h K) : HCX Try.prog 10 vs h K KP := by
  obtain ⟨s, rfl, h1, h2, hK⟩ := hC
  refine placesEnd_H _ G_Places_ok _ ?_
  simp (disch := first | omega | (simp only [e_ssz, e_psz, e_hszs, List.length_cons, List.length_nil]; omega)) only [↓reduceIte, go_sem, placesEnd_S, placesEnd_E, G_Places, C_lxPlace]
  have hl := col_le s (s.length - 400)
  rw [placeF_in (s.length - 400) h2 (by omega) (by omega)]
  refine ⟨by omega, fun hx => by simp only at hx; omega, fun _ => ?_⟩
  refine wpS_loop (fun (j : Nat) σ h' => σ 0 = str s ∧ σ 3 = .int .i64 (col s j).1 ∧ σ 4 = .int .i64 (col s j).2 ∧ σ 5 = .int .i64 (j + 1) ∧ h' = h ∧ j ≤ s.length ∧ s.length - 400 ≤ j) (fun j => s.length - j) (s.length - 400) ⟨by simp [upd], by simp [upd], by simp [upd], by simp [upd]; omega, rfl, by omega, by omega⟩ ?_
  rintro j σ h' ⟨e0, e3, e4, e5, rfl, hj, hj2⟩
  have hc := col_le s j
  simp (disch := first | omega | (simp only [e_ssz, e_psz, e_hszs, List.length_cons, List.length_nil]; omega)) only [↓reduceIte, go_sem, placesEnd_L1, e0, e3, e4, e5, G_Places, C_lxPlace, Int.add_sub_cancel]
  refine ⟨fun hlt => ?_, fun hge => ?_⟩
  · have e := placeF_in (s := s) (o := (j : Int) + 1) (j + 1) h2 (by omega) (by omega)
    rw [e]
    refine ⟨by omega, by omega, fun h10 => ?_, fun h10 => ?_⟩
    · have ec := col_lf (s := s) (j := j) (show bat s j = 10 by unfold bat; omega)
      rw [ec]
      refine ⟨by omega, fun hx => by simp only at hx; omega, fun _ => ⟨j + 1, ?_⟩⟩
      rw [ec]; simp only; omega
    · have ec := col_on (s := s) (j := j) (show ¬ bat s j = 10 by unfold bat; omega)
      rw [ec]
      refine ⟨by omega, fun hx => by simp at hx, fun _ => ⟨j + 1, ?_⟩⟩
      rw [ec]; exact ⟨rfl, by simp, by simp, by omega, by omega, by omega⟩
  · rw [placeF_out (by omega)]
    exact ⟨by omega, hK⟩
def C_places (vs : List Value) (h : H) (K : Value → H → Prop) : Prop := ∃ (s : List UInt8), vs = [str s] ∧ s.length ≤ 9223372036854775807 ∧ K (.bool true) h
def G_LexPlaces : Ctr := fun f vs h K _ => (f = 8 ∧ C_lxPlace vs h K) ∨ (f = 10 ∧ C_placesEnd vs h K)
theorem G_LexPlaces_ok : GOk Try.prog G_LexPlaces := by
  rintro f vs h K KP (⟨rfl, hC⟩ | ⟨rfl, hC⟩)
  · exact lxPlace_ok hC
  · exact placesEnd_ok hC
theorem LexPlaces_hc (s : List UInt8) (h : H) (hs : s.length ≤ 9223372036854775807) : HCX Try.prog 5 [str s] h (fun v h' => v = .bool true ∧ Ext h h') fun _ _ => False := by
  refine LexPlaces_H _ G_LexPlaces_ok _ ?_
  simp (disch := first | omega | (simp only [e_ssz, e_psz, e_hszs, List.length_cons, List.length_nil]; omega)) only [↓reduceIte, go_sem, LexPlaces_S, LexPlaces_E, G_LexPlaces, C_lxPlace, C_placesEnd]
  have p1 : placeF [97] 1 = (1, 2) := by decide
  rw [p1]
  refine ⟨fun hx => ⟨hs, ?_⟩, fun hx => ?_⟩
  · rw [placeF_out (by omega)]; exact ⟨rfl, rfl, rfl, rfl, .refl h⟩
  refine wpS_loop (fun (j : Nat) σ h' => σ 0 = str s ∧ σ 7 = .int .i64 (col s j).1 ∧ σ 8 = .int .i64 (col s j).2 ∧ σ 9 = .int .i64 j ∧ h' = h ∧ j ≤ s.length + 1) (fun j => s.length + 1 - j) 0 ⟨by simp [upd], by simp [upd, col], by simp [upd, col], by simp [upd], rfl, by omega⟩ ?_
  rintro j σ h' ⟨e0, e7, e8, e9, rfl, hj⟩
  have hc := col_le s j
  simp (disch := first | omega | (simp only [e_ssz, e_psz, e_hszs, List.length_cons, List.length_nil]; omega)) only [↓reduceIte, go_sem, LexPlaces_L1, e0, e7, e8, e9, G_LexPlaces, C_lxPlace, C_placesEnd]
  refine ⟨fun hle => ?_, fun hgt => ?_⟩
  · rw [placeF_in (s := s) j (by omega) rfl (by omega)]
    refine ⟨hs, fun hx => by simp at hx, fun _ => ⟨fun _ => by omega, fun ⟨h1, h10⟩ => ⟨fun _ => ⟨by omega, by omega, .refl _⟩, fun _ => ⟨j + 1, ?_⟩⟩, fun hx => ⟨fun _ => ⟨by omega, by omega, .refl _⟩, fun _ => ⟨j + 1, ?_⟩⟩⟩⟩
    · rw [col_lf (show bat s j = 10 by unfold bat; omega)]; simp only; omega
    · have hb : ¬ bat s j = 10 := by
        unfold bat
        rcases hx with hx | hx
        · rw [List.getD_eq_getElem?_getD, List.getElem?_eq_none (by omega)]; simp
        · omega
      rw [col_on hb]; exact ⟨rfl, by simp, by simp, by omega, by omega⟩
  · rw [placeF_out (by omega), placeF_out (by omega)]
    exact ⟨hs, hs, rfl, rfl, rfl, rfl, .refl _⟩
end Go.Proofs.Ytfgnpcckamlnaaa
