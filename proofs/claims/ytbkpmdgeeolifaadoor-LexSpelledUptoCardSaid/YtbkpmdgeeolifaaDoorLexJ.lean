/- How tokens are spelled, and that they are found. -/
import Derived.Test.YtbkpmdgeeolifaaDoorLexK
namespace Edict
open Go.Lib (decDigits)
/-! ### Integers -/
theorem decV_snoc (l : List UInt8) (c : UInt8) : decV (l ++ [c]) = decV l * 10 + (c.toNat - 48) := by unfold decV; rw [List.foldl_append]; rfl
theorem dig_toNat {n : Nat} (h : n < 10) : (UInt8.ofNat (48 + n)).toNat = 48 + n := by simp; omega
theorem dec_val (u : Nat) : decV (decDigits u) = u ∧ (∀ c ∈ decDigits u, dgB c.toNat = true) ∧ decDigits u ≠ [] := by
  rw [decDigits]
  split
  · rename_i h
    refine ⟨by unfold decV; rw [List.foldl_cons, List.foldl_nil, dig_toNat h]; omega, fun c hc => ?_, by simp⟩
    rw [List.mem_singleton.1 hc, dig_toNat h]
    unfold dgB; simp; omega
  · obtain ⟨h1, h2, h3⟩ := dec_val (u / 10)
    have hm : u % 10 < 10 := Nat.mod_lt _ (by decide)
    refine ⟨by rw [decV_snoc, h1, dig_toNat hm]; omega, fun c hc => ?_, by simp⟩
    rcases List.mem_append.1 hc with hc | hc
    · exact h2 c hc
    · rw [List.mem_singleton.1 hc, dig_toNat hm]
      unfold dgB; simp; omega
termination_by u
decreasing_by omega
theorem decV_zeros (n : Nat) (l : List UInt8) : decV (List.replicate n 48 ++ l) = decV l := by
  induction n with
  | zero => rfl
  | succ n ih =>
    have : decV (List.replicate (n + 1) 48 ++ l) = decV (List.replicate n 48 ++ l) := by
      rw [List.replicate_succ, List.cons_append]; unfold decV; rw [List.foldl_cons]; rfl
    rw [this, ih]
def zerosF (z : Int) : Nat := min z.toNat 20
def digF (v z : Int) : List UInt8 := List.replicate (zerosF z) 48 ++ decDigits v.natAbs
def intSp (v z : Int) : List UInt8 := if v < 0 then 45 :: digF v z else digF v z
theorem digF_ok (v z : Int) : decV (digF v z) = v.natAbs ∧ (∀ c ∈ digF v z, dgB c.toNat = true) ∧ digF v z ≠ [] := by
  obtain ⟨h1, h2, h3⟩ := dec_val v.natAbs
  refine ⟨by unfold digF; rw [decV_zeros, h1], fun c hc => ?_, by unfold digF; simp [h3]⟩
  rcases List.mem_append.1 hc with hc | hc
  · rw [(List.mem_replicate.1 hc).2]; decide
  · exact h2 c hc
theorem bat_mem {l : List UInt8} {i : Nat} (h : i < l.length) : ∃ c ∈ l, bat l i = c.toNat := by
  refine ⟨l[i], List.getElem_mem h, ?_⟩
  unfold bat; rw [List.getD_eq_getElem?_getD, List.getElem?_eq_getElem h]; rfl
theorem int_all {p d : List UInt8} (hd : ∀ c ∈ d, dgB c.toNat = true) (hne : d ≠ []) : runF (p ++ d) p.length = (p ++ d).length ∧ sub (p ++ d) p.length (p ++ d).length = d ∧ allDg (p ++ d) p.length (p ++ d).length = true ∧ dgB (bat (p ++ d) p.length) = true := by
  have hb : ∀ i, p.length ≤ i → i < (p ++ d).length → dgB (bat (p ++ d) i) = true := fun i h1 h2 => by
    have e := bat_appR (s := p) (t := d) (i := i - p.length)
    rw [show p.length + (i - p.length) = i by omega] at e
    rw [List.length_append] at h2
    obtain ⟨c, hc, hx⟩ := bat_mem (l := d) (i := i - p.length) (by omega)
    rw [e, hx]; exact hd c hc
  have hsub : sub (p ++ d) p.length (p ++ d).length = d := by unfold sub; rw [List.take_length, List.drop_left]
  refine ⟨runF_is (by simp) (Nat.le_refl _) (fun i h1 h2 => by unfold wdB; rw [hb i h1 h2]; rfl) (fun q => by omega), hsub, ?_, hb _ (Nat.le_refl _) (by rw [List.length_append]; have := List.length_pos_iff.2 hne; omega)⟩
  unfold allDg; rw [hsub, List.all_eq_true]; exact hd
theorem int_tok {v z : Int} (hv : -9223372036854775808 ≤ v ∧ v ≤ 9223372036854775807) : tokF (intSp v z) 0 = .ok (3, [], v, 0, 0, ((intSp v z).length : Int)) := by
  obtain ⟨h1, h2, h3⟩ := digF_ok v z
  have hp := List.length_pos_iff.2 h3
  by_cases hn : v < 0
  · have e : intSp v z = [45] ++ digF v z := by unfold intSp; rw [if_pos hn]; rfl
    rw [e]
    obtain ⟨r1, r2, r3, r4⟩ := int_all (p := [45]) h2 h3
    have b0 : bat ([45] ++ digF v z) 0 = 45 := rfl
    unfold tokF
    rw [if_neg (by simp), b0, if_neg (by decide), if_pos ⟨rfl, r4⟩]
    unfold intF
    rw [show (0 : Nat) + 1 = ([45] : List UInt8).length from rfl, r1, r3, r2, h1, if_pos rfl, if_pos (by decide), if_pos (by omega)]
    rw [show -((v.natAbs : Nat) : Int) = v by omega]
    rfl
  · have e : intSp v z = [] ++ digF v z := by unfold intSp; rw [if_neg hn]; rfl
    rw [e]
    obtain ⟨r1, r2, r3, r4⟩ := int_all (p := []) h2 h3
    unfold tokF
    rw [if_neg (by simp; exact h3), show (0 : Nat) = ([] : List UInt8).length from rfl, if_pos r4]
    unfold intF
    rw [r1, r3, r2, h1, if_pos rfl, if_neg (by decide), if_pos (by omega)]
    rw [show ((v.natAbs : Nat) : Int) = v by omega]
    rfl
/-! ### Words -/
def smB (c : Nat) : Bool := loB c
def bgB (c : Nat) : Bool := upB c || decide (c = 95)
def wordOKF (w : List UInt8) (name : Bool) : Bool := decide (w ≠ []) && decide (w.length ≤ 64) && decide (w ≠ [110, 111, 116]) && (if name then smB (bat w 0) else bgB (bat w 0)) && w.all fun c => wdB c.toNat
theorem word_tok {w : List UInt8} {name : Bool} (h : wordOKF w name = true) : tokF w 0 = .ok (if name then 1 else 2, w, 0, 0, 0, (w.length : Int)) := by
  unfold wordOKF at h
  simp only [Bool.and_eq_true, decide_eq_true_eq] at h
  obtain ⟨⟨⟨⟨h1, h2⟩, h3⟩, h4⟩, h5⟩ := h
  have hp := List.length_pos_iff.2 h1
  rw [List.all_eq_true] at h5
  have hb : ∀ i, i < w.length → wdB (bat w i) = true := fun i hi => by
    obtain ⟨c, hc, hx⟩ := bat_mem hi
    rw [hx]; exact h5 c hc
  have hr : runF w 0 = w.length := runF_is (Nat.zero_le _) (Nat.le_refl _) (fun i _ h2 => hb i h2) (fun q => by omega)
  have hs : sub w 0 w.length = w := by unfold sub; rw [List.take_length, List.drop_zero]
  have hc : dgB (bat w 0) = false ∧ bat w 0 ≠ 45 ∧ (loB (bat w 0) = name) := by
    cases name with
    | true =>
      simp only [if_true, smB, loB, Bool.and_eq_true, decide_eq_true_eq] at h4
      refine ⟨?_, by omega, ?_⟩
      · unfold dgB; simp; omega
      · unfold loB; simp; omega
    | false =>
      simp only [Bool.false_eq_true, if_false, bgB, upB, Bool.or_eq_true, Bool.and_eq_true, decide_eq_true_eq] at h4
      refine ⟨?_, by omega, ?_⟩
      · unfold dgB; simp; omega
      · unfold loB; simp; omega
  unfold tokF
  rw [if_neg (by omega), if_neg (by rw [hc.1]; simp), if_neg (fun q => hc.2.1 q.1), if_pos (hb 0 hp)]
  unfold wordF
  rw [hr, hs, if_neg (by omega), if_neg h3]
  cases name with
  | true => rw [if_pos hc.2.2]; rfl
  | false => rw [if_neg (by rw [hc.2.2]; simp)]; rfl
/-! ### Texts -/
def letF (c : Nat) : Nat := if c = 34 ∨ c = 92 then c else if c = 10 then 110 else if c = 9 then 116 else if c = 13 then 114 else 0
def hexD (n : Nat) : Nat := if n < 10 then 48 + n else 87 + n
def segF (style : Int) (c : UInt8) : List UInt8 :=
  if letF c.toNat ≠ 0 ∧ style ≠ 2 then [92, UInt8.ofNat (letF c.toNat)]
  else if c.toNat < 32 ∨ style = 2 ∨ letF c.toNat ≠ 0 then [92, 120, UInt8.ofNat (hexD (c.toNat / 16)), UInt8.ofNat (hexD (c.toNat % 16))]
  else [c]
def bodyF (style : Int) (v : List UInt8) : List UInt8 := v.flatMap (segF style)
def textSp (style : Int) (v : List UInt8) : List UInt8 := 34 :: (bodyF style v ++ [34])
theorem hexV_D {n : Nat} (h : n < 16) : hexV (hexD n) = some n := by
  have : ∀ n : Fin 16, hexV (hexD n.val) = some n.val := by decide
  exact this ⟨n, h⟩
theorem hexD_lt {n : Nat} (h : n < 16) : hexD n < 256 := by unfold hexD; split <;> omega
theorem ofNat_back {n : Nat} (h : n < 256) : (UInt8.ofNat n).toNat = n := by simpa using h
theorem let_back {c : Nat} (h : letF c ≠ 0) : letF c < 256 ∧ ∀ s : List UInt8, ∀ i : Nat, bat s (i + 1) = letF c → escF s i = (c, 2) := by
  unfold letF at h ⊢
  split at h
  · rename_i q
    rw [if_pos q]
    rcases q with rfl | rfl
    · exact ⟨by decide, fun s i hb => by unfold escF; rw [hb]; simp⟩
    · exact ⟨by decide, fun s i hb => by unfold escF; rw [hb]; simp⟩
  · rename_i q
    rw [if_neg q]
    split at h
    · rename_i q2; subst q2; rw [if_pos rfl]; exact ⟨by decide, fun s i hb => by unfold escF; rw [hb]; simp⟩
    · rename_i q2
      rw [if_neg q2]
      split at h
      · rename_i q3; subst q3; rw [if_pos rfl]; exact ⟨by decide, fun s i hb => by unfold escF; rw [hb]; simp⟩
      · rename_i q3
        rw [if_neg q3]
        split at h
        · rename_i q4; subst q4; rw [if_pos rfl]; exact ⟨by decide, fun s i hb => by unfold escF; rw [hb]; simp⟩
        · exact absurd rfl h
theorem bat_cons (c : UInt8) (l : List UInt8) : bat (c :: l) 0 = c.toNat ∧ ∀ i, bat (c :: l) (i + 1) = bat l i := ⟨rfl, fun i => by unfold bat; simp [List.getD_eq_getElem?_getD]⟩
theorem txt_body {s : List UInt8} {o : Nat} {style : Int} : ∀ {v acc : List UInt8} {i : Nat}, acc.length + v.length ≤ 255 → i + (bodyF style v ++ [34]).length ≤ s.length → (∀ j, j < (bodyF style v ++ [34]).length → bat s (i + j) = bat (bodyF style v ++ [34]) j) →
    txtF s o i acc = .ok (4, acc ++ v, 0, 0, (o : Int), ((i + (bodyF style v ++ [34]).length : Nat) : Int))
  | [], acc, i, hl, hs, hb => by
    have b0 := hb 0 (by simp [bodyF])
    have e : bodyF style [] ++ [34] = [34] := rfl
    rw [e] at b0 hs ⊢
    have b0' : bat s i = 34 := b0
    simp only [List.length_singleton] at hs ⊢
    rw [txtF, if_pos ⟨by omega, by omega⟩, if_pos b0', List.append_nil]
  | c :: v, acc, i, hl, hs, hb => by
    have e : bodyF style (c :: v) ++ [34] = segF style c ++ (bodyF style v ++ [34]) := by unfold bodyF; rw [List.flatMap_cons, List.append_assoc]
    rw [e] at hs hb ⊢
    rw [List.length_append] at hs ⊢
    rw [List.length_cons] at hl
    have hc256 : c.toNat < 256 := UInt8.toNat_lt c
    have rest : ∀ n, n = (segF style c).length → txtF s o (i + n) (acc ++ [c]) = .ok (4, acc ++ c :: v, 0, 0, (o : Int), ((i + (n + (bodyF style v ++ [34]).length) : Nat) : Int)) := fun n hn => by
      subst hn
      have ih := txt_body (s := s) (o := o) (style := style) (v := v) (acc := acc ++ [c]) (i := i + (segF style c).length) (by rw [List.length_append, List.length_singleton]; omega) (by omega) (fun j hj => by
        have h := hb ((segF style c).length + j) (by rw [List.length_append]; omega)
        rw [← Nat.add_assoc] at h
        rw [h, bat_appR])
      rw [ih, List.append_assoc, List.singleton_append, Nat.add_assoc]
    have hg : ∀ j, j < (segF style c).length → bat s (i + j) = bat (segF style c) j := fun j hj => by
      rw [hb j (by rw [List.length_append]; omega), bat_app hj]
    have hne : ¬ acc.length = 255 := by omega
    by_cases h1 : letF c.toNat ≠ 0 ∧ style ≠ 2
    · have hS : segF style c = [92, UInt8.ofNat (letF c.toNat)] := by unfold segF; rw [if_pos h1]
      rw [hS] at rest hg hs ⊢
      obtain ⟨l1, l2⟩ := let_back h1.1
      have g0 : bat s i = 92 := hg 0 (by simp)
      have g1 : bat s (i + 1) = letF c.toNat := by have := hg 1 (by simp); rw [this]; show (UInt8.ofNat (letF c.toNat)).toNat = _; exact ofNat_back l1
      have he := l2 s i g1
      simp only [List.length_cons, List.length_nil] at hs rest ⊢
      rw [txtF, if_pos ⟨by omega, by omega⟩, if_neg (by omega), if_pos g0, he, if_neg (show ¬ (2 : Nat) = 0 by decide), if_neg hne]
      simp only [UInt8.ofNat_toNat]
      exact rest 2 rfl
    · by_cases h2 : c.toNat < 32 ∨ style = 2 ∨ letF c.toNat ≠ 0
      · have hS : segF style c = [92, 120, UInt8.ofNat (hexD (c.toNat / 16)), UInt8.ofNat (hexD (c.toNat % 16))] := by unfold segF; rw [if_neg h1, if_pos h2]
        rw [hS] at rest hg hs ⊢
        have d1 : c.toNat / 16 < 16 := by omega
        have d2 : c.toNat % 16 < 16 := Nat.mod_lt _ (by decide)
        have g0 : bat s i = 92 := hg 0 (by simp)
        have g1 : bat s (i + 1) = 120 := hg 1 (by simp)
        have g2 : bat s (i + 2) = hexD (c.toNat / 16) := by have := hg 2 (by simp); rw [this]; show (UInt8.ofNat (hexD (c.toNat / 16))).toNat = _; exact ofNat_back (hexD_lt d1)
        have g3 : bat s (i + 3) = hexD (c.toNat % 16) := by have := hg 3 (by simp); rw [this]; show (UInt8.ofNat (hexD (c.toNat % 16))).toNat = _; exact ofNat_back (hexD_lt d2)
        have he : escF s i = (c.toNat, 4) := by
          unfold escF
          rw [g1, g2, g3, hexV_D d1, hexV_D d2]
          simp only [show ¬ (120 : Nat) = 34 by decide, show ¬ (120 : Nat) = 92 by decide, show ¬ (120 : Nat) = 110 by decide, show ¬ (120 : Nat) = 116 by decide, show ¬ (120 : Nat) = 114 by decide, if_false, if_true]
          congr 1; omega
        simp only [List.length_cons, List.length_nil] at hs rest ⊢
        rw [txtF, if_pos ⟨by omega, by omega⟩, if_neg (by omega), if_pos g0, he, if_neg (show ¬ (4 : Nat) = 0 by decide), if_neg hne]
        simp only [UInt8.ofNat_toNat]
        exact rest 4 rfl
      · have hS : segF style c = [c] := by unfold segF; rw [if_neg h1, if_neg h2]
        rw [hS] at rest hg hs ⊢
        have h3 : ¬ c.toNat < 32 ∧ letF c.toNat = 0 := by
          refine ⟨fun q => h2 (.inl q), Decidable.byContradiction fun q => h2 (.inr (.inr q))⟩
        have g0 : bat s i = c.toNat := hg 0 (by simp)
        have h34 : ¬ c.toNat = 34 := fun q => by rw [q] at h3; exact absurd h3.2 (by decide)
        have h92 : ¬ c.toNat = 92 := fun q => by rw [q] at h3; exact absurd h3.2 (by decide)
        simp only [List.length_cons, List.length_nil] at hs rest ⊢
        rw [txtF, if_pos ⟨by omega, by omega⟩, if_neg (by omega), if_neg (by omega), if_neg hne, g0]
        simp only [UInt8.ofNat_toNat]
        exact rest 1 rfl
theorem text_tok {style : Int} {v : List UInt8} (hv : v.length ≤ 255) : tokF (textSp style v) 0 = .ok (4, v, 0, 0, 0, ((textSp style v).length : Int)) := by
  have hl : (textSp style v).length = 1 + (bodyF style v ++ [34]).length := by unfold textSp; rw [List.length_cons]; omega
  have b0 : bat (textSp style v) 0 = 34 := rfl
  have := txt_body (s := textSp style v) (o := 0) (style := style) (v := v) (acc := []) (i := 1) (by simp; omega) (by omega) (fun j hj => by
    unfold textSp; rw [Nat.add_comm]; exact (bat_cons _ _).2 j)
  unfold tokF
  rw [if_neg (by omega), b0, if_neg (by decide), if_neg (fun q => absurd q.1 (by decide)), if_neg (by decide), if_pos rfl, this, hl, List.nil_append]
  rfl
end Edict
