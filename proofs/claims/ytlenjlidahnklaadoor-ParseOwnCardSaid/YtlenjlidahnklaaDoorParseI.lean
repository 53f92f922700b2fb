/- strconv.ParseInt at digits, perhaps behind a minus: by the library's contract. -/
import Derived.Test.YtlenjlidahnklaaDoorLexV
import Derived.Test.YtlenjlidahnklaaDoorShelf
import Derived.KernelRfl
namespace Edict
def decA (a : Nat) (l : List UInt8) : Nat := l.foldl (fun v c => v * 10 + (c.toNat - 48)) a
theorem decA_ge : ∀ (l : List UInt8) (a : Nat), a ≤ decA a l
  | [], a => Nat.le_refl a
  | c :: r, a => by
    have := decA_ge r (a * 10 + (c.toNat - 48))
    simp only [decA, List.foldl_cons] at this ⊢
    omega
theorem parse_dig1 : ∀ (l : List UInt8) (a : Nat), (∀ c ∈ l, dgB c.toNat = true) → a ≤ 18446744073709551615 → Go.Lib.parseUintM 18446744073709551615 a l = if decA a l ≤ 18446744073709551615 then .ok (decA a l) else .range
  | [], a, _, ha => by simp [Go.Lib.parseUintM, decA, ha]
  | c :: r, a, hd, ha => by
    have hc := hd c (by simp)
    have hc' : 48 ≤ c.toNat ∧ c.toNat ≤ 57 := by unfold dgB at hc; simpa using hc
    have hg := decA_ge r (a * 10 + (c.toNat - 48))
    have he : decA a (c :: r) = decA (a * 10 + (c.toNat - 48)) r := rfl
    unfold Go.Lib.parseUintM
    rw [if_pos hc', he]
    by_cases h1 : 1844674407370955162 ≤ a
    · rw [if_pos h1, if_neg (by omega)]
    · rw [if_neg h1]
      by_cases h2 : 18446744073709551615 < a * 10 + (c.toNat - 48)
      · rw [if_pos h2, if_neg (by omega)]
      · rw [if_neg h2]
        exact parse_dig1 r _ (fun x hx => hd x (by simp [hx])) (by omega)
def pintV (neg : Bool) (d : List UInt8) : Option Int := if neg then (if decV d ≤ 9223372036854775808 then some (-(decV d : Nat)) else none) else if decV d ≤ 9223372036854775807 then some (decV d : Nat) else none
def sgnL (neg : Bool) : List UInt8 := if neg then [45] else []
theorem parse_dig {neg : Bool} {d : List UInt8} (h0 : d ≠ []) (hd : ∀ c ∈ d, dgB c.toNat = true) : Go.Lib.parseIntB 64 (sgnL neg ++ d) = match pintV neg d with | some v => .ok v | none => .range := by
  have e1 : (2 : Nat) ^ (64 - 1) = 9223372036854775808 := by decide
  have e2 : (2 : Nat) ^ 64 - 1 = 18446744073709551615 := by decide
  have hp := parse_dig1 d 0 hd (by decide)
  have hdv : decA 0 d = decV d := rfl
  rw [hdv] at hp
  have hu : Go.Lib.parseUintB 64 d = if decV d ≤ 18446744073709551615 then .ok (decV d) else .range := by unfold Go.Lib.parseUintB; rw [if_neg h0, e2, hp]
  cases neg with
  | true =>
    simp only [sgnL, if_true, List.cons_append, List.nil_append, pintV]
    unfold Go.Lib.parseIntB
    simp only [show (45 : UInt8).toNat = 45 from rfl, or_true, if_true, hu, e1]
    by_cases q1 : decV d ≤ 18446744073709551615
    · rw [if_pos q1]
      by_cases q2 : decV d ≤ 9223372036854775808
      · rw [if_pos q2]; simp; omega
      · rw [if_neg q2]; simp; omega
    · rw [if_neg q1, if_neg (by omega)]
  | false =>
    cases d with
    | nil => exact absurd rfl h0
    | cons c r =>
      have hc := hd c (by simp)
      have hc' : 48 ≤ c.toNat ∧ c.toNat ≤ 57 := by unfold dgB at hc; simpa using hc
      simp only [sgnL, Bool.false_eq_true, if_false, List.nil_append, pintV]
      unfold Go.Lib.parseIntB
      simp only [show ¬ c.toNat = 43 by omega, show ¬ c.toNat = 45 by omega, or_self, if_false, hu, e1]
      by_cases q1 : decV (c :: r) ≤ 18446744073709551615
      · rw [if_pos q1]
        by_cases q2 : decV (c :: r) ≤ 9223372036854775807
        · rw [if_pos q2]; simp; omega
        · rw [if_neg q2]; simp; omega
      · rw [if_neg q1, if_neg (by omega)]
end Edict
namespace Go.Ev
open Go
theorem Step.ofSame {u : U} {h h' : H} (hs : h.size ≤ h'.size) (hb : ∀ b, b < h.size → h'[b]? = h[b]?) : Step S0 u h u h' := by
  refine ⟨⟨hs, fun _ _ => Nat.le_refl _, fun b hl => ?_, fun b hl o _ => ?_⟩, fun b hl _ => ⟨hb b hl, rfl⟩⟩
  · unfold hsz hfr; rw [hb b hl]; exact ⟨rfl, rfl⟩
  · unfold Go.Ev.hv hc; rw [hb b hl]
end Go.Ev
namespace Go.Proofs.YtlenjlidahnklaaDoor
open Go Go.Ev Edict
/-- What strconv.ErrRange holds: an interface. -/
def ErrG (u : U) (h : H) : Prop := 2 < h.size ∧ 1 ≤ hsz h 2 ∧ 1 ≤ u 2 ∧ (hv h 2 0 = .nilIface ∨ ∃ t p, hv h 2 0 = .iface t p)
theorem ErrG.mono {u u' : U} {h h' : H} (k : ErrG u h) (g : Ge u h u' h') : ErrG u' h' := by
  obtain ⟨k1, k2, k3, k4⟩ := k
  refine ⟨Nat.lt_of_lt_of_le k1 g.sz, by rw [(g.hs _ k1).1]; exact k2, Nat.le_trans k3 (g.up _ k1), ?_⟩
  rw [g.cl _ k1 0 (by omega)]; exact k4
def C_pint (vs : List Value) (h : H) (K : Value → H → Prop) : Prop := ∃ (u : U) (neg : Bool) (d : List UInt8), vs = [str (sgnL neg ++ d), .int .i64 10, .int .i64 64] ∧ d.length ≤ 65536 ∧ d ≠ [] ∧ (∀ c ∈ d, dgB c.toNat = true) ∧ ErrG u h ∧
  ∀ u' h', Step S0 u h u' h' → (match pintV neg d with | some v => K (.tuple #[.int .i64 v, .nilIface]) h' | none => ∀ n t p, K (.tuple #[.int .i64 n, .iface t p]) h')
theorem parseInt_ok {vs : List Value} {h : H} {K : Value → H → Prop} {KP : List PanicEntry → H → Prop} (hC : C_pint vs h K) : HCX Tryd.prog 59 vs h K KP := by
  obtain ⟨u, neg, d, rfl, hl, h0, hd, ⟨g1, g2, g3, g4⟩, hK⟩ := hC
  have hp := parse_dig (neg := neg) h0 hd
  have hsl : (sgnL neg).length ≤ 1 := by cases neg <;> simp [sgnL]
  have hsz : (⟨(sgnL neg ++ d).toArray⟩ : ByteArray).size ≤ 65537 := by
    show (sgnL neg ++ d).toArray.size ≤ 65537
    simp only [List.size_toArray, List.length_append]; omega
  refine .inl ⟨by kernel_rfl, fun w hw => ?_⟩
  subst hw
  cases hv : pintV neg d with
  | some v =>
    rw [hv] at hp hK
    refine (Tryd.strconv_ParseInt_10_at64_ok ⟨(sgnL neg ++ d).toArray⟩ (by omega) v hp w).mono ?_
    rintro e w' ⟨rfl, rfl | ⟨t, rfl⟩⟩
    · exact ⟨.refl _, hK u _ (.refl _ _ _)⟩
    · exact ⟨⟨rfl, rfl, rfl⟩, hK u _ (Step.ofSame (by rw [Lib.bytesWorld_size]; omega) (fun b hb => Lib.bytesWorld_at_old _ _ _ _ hb))⟩
  | none =>
    rw [hv] at hp hK
    have hcell : w.cell? ⟨2, 0, none⟩ = some (Go.Ev.hv w.heap 2 0) := by rw [cell_hc]; exact hc_some g2
    refine (Tryd.strconv_ParseInt_10_at64_range ⟨(sgnL neg ++ d).toArray⟩ (by omega) hp _ w hcell g4).mono ?_
    rintro e w' ⟨N, rfl, -, -, hb⟩
    exact ⟨⟨hb.os, hb.tape, hb.output⟩, hK u _ (Step.ofSame hb.size hb.block) _ _ _⟩
end Go.Proofs.YtlenjlidahnklaaDoor
