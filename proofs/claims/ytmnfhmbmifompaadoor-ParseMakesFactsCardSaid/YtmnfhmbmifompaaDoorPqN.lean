/- The maker's terms, atoms, literals, clauses, in plain terms; what the reader makes of the tokens that they lay. -/
import Derived.Test.YtmnfhmbmifompaaDoorPqM
import Derived.Test.YtmnfhmbmifompaaDoorPlE
namespace Edict
open Go
open Go.Lib (decDigits)
/-! ### How a term is spelled -/
theorem dec_len : ∀ (n u : Nat), u < 10 ^ (n + 1) → (decDigits u).length ≤ n + 1
  | 0, u, h => by rw [decDigits, dif_pos (by simpa using h)]; simp
  | n + 1, u, h => by
    rw [decDigits]
    split
    · simp
    · have := dec_len n (u / 10) (by rw [Nat.div_lt_iff_lt_mul (by decide)]; rw [Nat.pow_succ] at h; exact h)
      rw [List.length_append, List.length_singleton]; omega
def intS (n : Int) : List UInt8 := if 0 ≤ n ∧ n % 5 = 0 then intSp n 2 else if n < 0 ∧ n % 5 = 0 ∧ -4611686018427387904 < n then intSp n 1 else intSp n 0
def longS (c : UInt8) : List UInt8 := c :: List.replicate 63 95
def numS (n : Int) : List UInt8 := decDigits (n % 1000).toNat
def nameS (n : Int) : List UInt8 :=
  if n % 12 = 0 then [97] else if n % 12 = 1 then [98] else if n % 12 = 2 then [110, 111, 116, 97] else if n % 12 = 3 then [110, 111] else if n % 12 = 4 then [110, 111, 116, 95]
  else if n % 12 = 5 then [97, 66, 95, 57] else if n % 12 = 6 then [110, 79, 116] else if n % 12 = 7 then longS 108 else 112 :: numS n
def varS (n : Int) : List UInt8 :=
  if n % 8 = 0 then [88] else if n % 8 = 1 then [95] else if n % 8 = 2 then [95, 120] else if n % 8 = 3 then [78, 111, 116] else if n % 8 = 4 then [95, 95]
  else if n % 8 = 5 then [65, 97, 95, 57] else if n % 8 = 6 then longS 86 else 89 :: numS n
def textS (n : Int) : List UInt8 :=
  if n % 8 = 0 then [34, 34] else if n % 8 = 1 then [34, 97, 34] else if n % 8 = 2 then [34, 92, 120, 52, 49, 92, 110, 92, 116, 34] else if n % 8 = 3 then [34, 92, 34, 92, 92, 34]
  else if n % 8 = 4 then [34, 112, 40, 88, 41, 46, 32, 37, 32, 47, 42, 32, 34] else if n % 8 = 5 then [34, 195, 169, 127, 34] else if n % 8 = 6 then [34, 110, 111, 116, 34]
  else 34 :: (116 :: numS n ++ [34])
def textV (n : Int) : List UInt8 :=
  if n % 8 = 0 then [] else if n % 8 = 1 then [97] else if n % 8 = 2 then [65, 10, 9] else if n % 8 = 3 then [34, 92]
  else if n % 8 = 4 then [112, 40, 88, 41, 46, 32, 37, 32, 47, 42, 32] else if n % 8 = 5 then [195, 169, 127] else if n % 8 = 6 then [110, 111, 116]
  else 116 :: numS n
def opS (n : Int) : List UInt8 := if n % 6 = 0 then [61] else if n % 6 = 1 then [33, 61] else if n % 6 = 2 then [60] else if n % 6 = 3 then [60, 61] else if n % 6 = 4 then [62] else [62, 61]
def OkI (n : Int) : Prop := -9223372036854775808 ≤ n ∧ n ≤ 9223372036854775807
theorem numS_ok (n : Int) : (numS n).length ≤ 3 ∧ ∀ c ∈ numS n, dgB c.toNat = true := by
  unfold numS
  exact ⟨dec_len 2 _ (by show _ < 1000; omega), (dec_val _).2.1⟩
theorem wordOK_cons {c : UInt8} {l : List UInt8} {name : Bool} (h1 : (if name then smB c.toNat else bgB c.toNat) = true) (h2 : l.length ≤ 63) (h3 : ∀ x ∈ l, dgB x.toNat = true) (h4 : c ≠ 110) : wordOKF (c :: l) name = true := by
  have hw : ∀ x ∈ l, wdB x.toNat = true := fun x hx => by unfold wdB; rw [h3 x hx]; rfl
  have hc : wdB c.toNat = true := by
    cases name with
    | true => simp only [if_true] at h1; unfold smB at h1; unfold wdB; rw [h1]; simp
    | false => simp only [Bool.false_eq_true, if_false] at h1; unfold bgB at h1; unfold wdB; simp only [Bool.or_eq_true] at h1 ⊢; rcases h1 with h1 | h1
               · exact .inl (.inl (.inr h1))
               · exact .inr h1
  unfold wordOKF
  have hb : bat (c :: l) 0 = c.toNat := rfl
  rw [hb, h1]
  simp only [List.length_cons, List.all_cons, hc, Bool.true_and, Bool.and_true, Bool.and_eq_true, decide_eq_true_eq, List.all_eq_true]
  refine ⟨⟨⟨by simp, by omega⟩, fun q => h4 (by injection q)⟩, hw⟩
theorem name_ok (n : Int) : wordOKF (nameS n) true = true := by
  obtain ⟨h1, h2⟩ := numS_ok n
  unfold nameS
  repeat' split
  all_goals first
    | exact wordOK_cons rfl (by omega) h2 (by decide)
    | decide +kernel
theorem var_ok (n : Int) : wordOKF (varS n) false = true := by
  obtain ⟨h1, h2⟩ := numS_ok n
  unfold varS
  repeat' split
  all_goals first
    | exact wordOK_cons rfl (by omega) h2 (by decide)
    | decide +kernel
theorem body_plain : ∀ (v : List UInt8), (∀ c ∈ v, dgB c.toNat = true ∨ c = 116) → bodyF 0 v = v
  | [], _ => rfl
  | c :: l, h => by
    have ih := body_plain l (fun x hx => h x (List.mem_cons_of_mem _ hx))
    unfold bodyF at ih ⊢
    rw [List.flatMap_cons, ih]
    have hc := h c (by simp)
    have : segF 0 c = [c] := by
      have h1 : letF c.toNat = 0 := by
        rcases hc with hc | rfl
        · unfold dgB at hc
          simp only [Bool.and_eq_true, decide_eq_true_eq] at hc
          unfold letF
          rw [if_neg (by omega), if_neg (by omega), if_neg (by omega), if_neg (by omega)]
        · rfl
      have h2 : 32 ≤ c.toNat := by
        rcases hc with hc | rfl
        · unfold dgB at hc
          simp only [Bool.and_eq_true, decide_eq_true_eq] at hc
          omega
        · decide
      unfold segF
      rw [h1, if_neg (by simp), if_neg (by omega)]
    rw [this]; rfl
theorem text_0 : tokF [34, 34] 0 = .ok (4, [], 0, 0, 0, 2) := by kernel_rfl
theorem text_1 : tokF [34, 97, 34] 0 = .ok (4, [97], 0, 0, 0, 3) := by kernel_rfl
theorem text_2 : tokF [34, 92, 120, 52, 49, 92, 110, 92, 116, 34] 0 = .ok (4, [65, 10, 9], 0, 0, 0, 10) := by kernel_rfl
theorem text_3 : tokF [34, 92, 34, 92, 92, 34] 0 = .ok (4, [34, 92], 0, 0, 0, 6) := by kernel_rfl
theorem text_4 : tokF [34, 112, 40, 88, 41, 46, 32, 37, 32, 47, 42, 32, 34] 0 = .ok (4, [112, 40, 88, 41, 46, 32, 37, 32, 47, 42, 32], 0, 0, 0, 13) := by kernel_rfl
theorem text_5 : tokF [34, 195, 169, 127, 34] 0 = .ok (4, [195, 169, 127], 0, 0, 0, 5) := by kernel_rfl
theorem text_6 : tokF [34, 110, 111, 116, 34] 0 = .ok (4, [110, 111, 116], 0, 0, 0, 5) := by kernel_rfl
theorem op_0 : tokF [61] 0 = .ok (11, [], 0, 1, 0, 1) := by kernel_rfl
theorem op_1 : tokF [33, 61] 0 = .ok (11, [], 0, 2, 0, 2) := by kernel_rfl
theorem op_2 : tokF [60] 0 = .ok (11, [], 0, 3, 0, 1) := by kernel_rfl
theorem op_3 : tokF [60, 61] 0 = .ok (11, [], 0, 4, 0, 2) := by kernel_rfl
theorem op_4 : tokF [62] 0 = .ok (11, [], 0, 5, 0, 1) := by kernel_rfl
theorem op_5 : tokF [62, 61] 0 = .ok (11, [], 0, 6, 0, 2) := by kernel_rfl
theorem text_ok (n : Int) : tokF (textS n) 0 = .ok (4, textV n, 0, 0, 0, ((textS n).length : Int)) := by
  obtain ⟨h1, h2⟩ := numS_ok n
  obtain ⟨r, hr⟩ : ∃ r, r = n % 8 := ⟨_, rfl⟩
  have h8 : r = 0 ∨ r = 1 ∨ r = 2 ∨ r = 3 ∨ r = 4 ∨ r = 5 ∨ r = 6 ∨ r = 7 := by omega
  unfold textS textV
  rw [← hr]
  clear hr
  rcases h8 with rfl | rfl | rfl | rfl | rfl | rfl | rfl | rfl
  · exact text_0
  · exact text_1
  · exact text_2
  · exact text_3
  · exact text_4
  · exact text_5
  · exact text_6
  · have hb := body_plain (116 :: numS n) (fun c hc => by
      rcases List.mem_cons.1 hc with rfl | hc
      · exact .inr rfl
      · exact .inl (h2 c hc))
    have := text_tok (style := 0) (v := 116 :: numS n) (by simp only [List.length_cons]; omega)
    unfold textSp at this
    rw [hb] at this
    exact this
theorem op_ok (n : Int) : tokF (opS n) 0 = .ok (11, [], 0, 1 + n % 6, 0, ((opS n).length : Int)) := by
  obtain ⟨r, hr⟩ : ∃ r, r = n % 6 := ⟨_, rfl⟩
  have h6 : r = 0 ∨ r = 1 ∨ r = 2 ∨ r = 3 ∨ r = 4 ∨ r = 5 := by omega
  unfold opS
  rw [← hr]
  clear hr
  rcases h6 with rfl | rfl | rfl | rfl | rfl | rfl
  · exact op_0
  · exact op_1
  · exact op_2
  · exact op_3
  · exact op_4
  · exact op_5
theorem op_first (n : Int) : wdB (bat (opS n) 0) = false ∧ (lastB (opS n) = 60 ∨ lastB (opS n) = 61 ∨ lastB (opS n) = 62) := by
  unfold opS
  repeat' split
  all_goals decide
theorem op_len (n : Int) : (opS n).length ≤ 2 := by
  unfold opS
  repeat' split
  all_goals decide
def termS (t : TT) : List UInt8 := if t.1 % 4 = 0 then intS t.2 else if t.1 % 4 = 1 then nameS t.2 else if t.1 % 4 = 2 then textS t.2 else varS t.2
def termV (t : TT) (off : Int) : TermT := if t.1 % 4 = 0 then (1, t.2, [], off) else if t.1 % 4 = 1 then (2, 0, nameS t.2, off) else if t.1 % 4 = 2 then (3, 0, textV t.2, off) else (4, 0, varS t.2, off)
theorem word_shape {w : List UInt8} {name : Bool} (h : wordOKF w name = true) : w.length ≤ 64 ∧ wdB (lastB w) = true ∧ wdB (bat w 0) = true ∧ w ≠ [] := by
  unfold wordOKF at h
  simp only [Bool.and_eq_true, decide_eq_true_eq, List.all_eq_true] at h
  obtain ⟨⟨⟨⟨h1, h2⟩, h3⟩, h4⟩, h5⟩ := h
  have hl := List.length_pos_iff.2 h1
  have hb : ∀ i, i < w.length → wdB (bat w i) = true := fun i hi => by
    obtain ⟨c, hc, e⟩ := bat_mem hi
    rw [e]; exact h5 c hc
  exact ⟨h2, hb _ (by omega), hb _ hl, h1⟩
theorem int_shape {v z : Int} (hv : OkI v) : (intSp v z).length ≤ 41 ∧ wdB (lastB (intSp v z)) = true ∧ bat (intSp v z) 0 ≠ 61 ∧ intSp v z ≠ [] := by
  obtain ⟨-, h2, h3⟩ := digF_ok v z
  obtain ⟨hv1, hv2⟩ := hv
  have hl := List.length_pos_iff.2 h3
  have hlen : (digF v z).length ≤ 40 := by
    have := dec_len 18 v.natAbs (by have : (10 : Nat) ^ (18 + 1) = 10000000000000000000 := by decide
                                    omega)
    unfold digF zerosF
    rw [List.length_append, List.length_replicate]
    omega
  have hb : ∀ i, i < (digF v z).length → dgB (bat (digF v z) i) = true := fun i hi => by
    obtain ⟨c, hc, e⟩ := bat_mem hi
    rw [e]; exact h2 c hc
  have hdw : ∀ c, dgB c = true → wdB c = true := fun c hc => by unfold wdB; rw [hc]; rfl
  unfold intSp
  split
  · refine ⟨by simp only [List.length_cons]; omega, ?_, show (45 : Nat) ≠ 61 by decide, by simp⟩
    rw [show (45 :: digF v z : List UInt8) = [45] ++ digF v z from rfl, lastB_app h3]
    exact hdw _ (hb _ (by omega))
  · refine ⟨by omega, hdw _ (hb _ (by omega)), ?_, h3⟩
    have := hb 0 hl
    intro q
    rw [q] at this
    revert this; decide
theorem intS_ok {n : Int} (h : OkI n) : tokF (intS n) 0 = .ok (3, [], n, 0, 0, ((intS n).length : Int)) ∧ (intS n).length ≤ 41 ∧ wdB (lastB (intS n)) = true ∧ bat (intS n) 0 ≠ 61 ∧ intS n ≠ [] := by
  unfold intS
  repeat' split
  all_goals exact ⟨int_tok h, int_shape h⟩
theorem text_shape (n : Int) : (textS n).length ≤ 64 ∧ lastB (textS n) = 34 ∧ bat (textS n) 0 = 34 ∧ textS n ≠ [] := by
  obtain ⟨h1, h2⟩ := numS_ok n
  unfold textS
  repeat' split
  all_goals first
    | decide
    | skip
  refine ⟨by simp only [List.length_cons, List.length_append, List.length_nil]; omega, ?_, rfl, by simp⟩
  rw [show (34 :: (116 :: numS n ++ [34]) : List UInt8) = (34 :: 116 :: numS n) ++ [34] from rfl, lastB_app (by simp)]
  rfl
/-- A term's spelling: its token, and what may stand around it. -/
theorem term_ok {t : TT} (h : OkI t.2) : ∃ c v n, tokF (termS t) 0 = .ok (c, v, n, 0, 0, ((termS t).length : Int)) ∧ c ≠ 0 ∧ isT c true = true ∧ (t.1 % 4 ≠ 3 → isT c false = true) ∧ (∀ o e, termD (c, v, n, 0, o, e) = termV t o) ∧
    (termS t).length ≤ 64 ∧ (lastB (termS t) ≠ 60 ∧ lastB (termS t) ≠ 62) ∧ bat (termS t) 0 ≠ 61 ∧ termS t ≠ [] := by
  have hw : ∀ c, wdB c = true → c ≠ 60 ∧ c ≠ 62 ∧ c ≠ 61 := fun c hc => ⟨fun q => by rw [q] at hc; revert hc; decide, fun q => by rw [q] at hc; revert hc; decide, fun q => by rw [q] at hc; revert hc; decide⟩
  by_cases h0 : t.1 % 4 = 0
  · have e1 : termS t = intS t.2 := by unfold termS; rw [if_pos h0]
    have e2 : ∀ o, termV t o = (1, t.2, [], o) := fun o => by unfold termV; rw [if_pos h0]
    rw [e1]
    obtain ⟨a, b, c, d, e⟩ := intS_ok h
    obtain ⟨w1, w2, -⟩ := hw _ c
    exact ⟨3, [], t.2, a, by decide, rfl, fun _ => rfl, fun o e => by rw [e2]; rfl, by omega, ⟨w1, w2⟩, d, e⟩
  by_cases h1 : t.1 % 4 = 1
  · have e1 : termS t = nameS t.2 := by unfold termS; rw [if_neg h0, if_pos h1]
    have e2 : ∀ o, termV t o = (2, 0, nameS t.2, o) := fun o => by unfold termV; rw [if_neg h0, if_pos h1]
    rw [e1]
    obtain ⟨a, b, c, d⟩ := word_shape (name_ok t.2)
    obtain ⟨w1, w2, -⟩ := hw _ b
    obtain ⟨-, -, w3⟩ := hw _ c
    exact ⟨1, nameS t.2, 0, word_tok (name_ok t.2), by decide, rfl, fun _ => rfl, fun o e => by rw [e2]; rfl, a, ⟨w1, w2⟩, w3, d⟩
  by_cases h2 : t.1 % 4 = 2
  · have e1 : termS t = textS t.2 := by unfold termS; rw [if_neg h0, if_neg h1, if_pos h2]
    have e2 : ∀ o, termV t o = (3, 0, textV t.2, o) := fun o => by unfold termV; rw [if_neg h0, if_neg h1, if_pos h2]
    rw [e1]
    obtain ⟨a, b, c, d⟩ := text_shape t.2
    exact ⟨4, textV t.2, 0, text_ok t.2, by decide, rfl, fun _ => rfl, fun o e => by rw [e2]; rfl, a, by rw [b]; decide, by rw [c]; decide, d⟩
  have e1 : termS t = varS t.2 := by unfold termS; rw [if_neg h0, if_neg h1, if_neg h2]
  have e2 : ∀ o, termV t o = (4, 0, varS t.2, o) := fun o => by unfold termV; rw [if_neg h0, if_neg h1, if_neg h2]
  rw [e1]
  obtain ⟨a, b, c, d⟩ := word_shape (var_ok t.2)
  obtain ⟨w1, w2, -⟩ := hw _ b
  obtain ⟨-, -, w3⟩ := hw _ c
  exact ⟨2, varS t.2, 0, word_tok (var_ok t.2), by decide, rfl, fun q => absurd q (by omega), fun o e => by rw [e2]; rfl, a, ⟨w1, w2⟩, w3, d⟩
/-! ### The maker -/
abbrev MS := List UInt8 × Nat
def putS (gs : List Int) (st : MS) (s : List UInt8) : MS := (st.1 ++ gapK gs st.2 ++ s, nxtK gs st.2)
def offS (gs : List Int) (st : MS) : Int := ((st.1 ++ gapK gs st.2).length : Nat)
def gndT (gr : Bool) (t : TT) : TT := if gr then (t.1 % 3, t.2) else t
def mkTerm (gs : List Int) (t : TT) (st : MS) : TermT × MS := (termV t (offS gs st), putS gs st (termS t))
def argsS (gs : List Int) (gr : Bool) (l : List TT) (st : MS) : Nat → List TermT × MS
  | 0 => ([], st)
  | i + 1 => ((argsS gs gr l st i).1 ++ [(mkTerm gs (gndT gr (l.getD i (0, 0))) (putS gs (argsS gs gr l st i).2 (if i = 0 then [40] else [44]))).1],
      (mkTerm gs (gndT gr (l.getD i (0, 0))) (putS gs (argsS gs gr l st i).2 (if i = 0 then [40] else [44]))).2)
def mkAtom (gs : List Int) (gr : Bool) (a : AA) (st : MS) : AtomT × MS :=
  ((nameS a.1, (argsS gs gr a.2 (putS gs st (nameS a.1)) (min a.2.length 8)).1, offS gs st),
    if a.2.length = 0 then (argsS gs gr a.2 (putS gs st (nameS a.1)) (min a.2.length 8)).2 else putS gs (argsS gs gr a.2 (putS gs st (nameS a.1)) (min a.2.length 8)).2 [41])
def mkLit (gs : List Int) (l : LL) (st : MS) : LitT × MS :=
  if l.1 % 3 = 0 then ((1, (mkAtom gs false l.2.1 st).1, 0, noTerm, noTerm, (mkAtom gs false l.2.1 st).1.2.2), (mkAtom gs false l.2.1 st).2)
  else if l.1 % 3 = 1 then
    ((2, (mkAtom gs false l.2.1 ((putS gs st [110, 111, 116]).1 ++ [32], (putS gs st [110, 111, 116]).2)).1, 0, noTerm, noTerm, offS gs st), (mkAtom gs false l.2.1 ((putS gs st [110, 111, 116]).1 ++ [32], (putS gs st [110, 111, 116]).2)).2)
  else
    ((3, noAtom, 1 + l.2.2.1 % 6, (mkTerm gs l.2.2.2.1 st).1, (mkTerm gs l.2.2.2.2 (putS gs (mkTerm gs l.2.2.2.1 st).2 (opS l.2.2.1))).1, (mkTerm gs l.2.2.2.1 st).1.2.2.2),
      (mkTerm gs l.2.2.2.2 (putS gs (mkTerm gs l.2.2.2.1 st).2 (opS l.2.2.1))).2)
def noLL : LL := (0, (0, []), 0, (0, 0), (0, 0))
def bodyS (gs : List Int) (l : List LL) (st : MS) : Nat → List LitT × MS
  | 0 => ([], st)
  | i + 1 => ((bodyS gs l st i).1 ++ [(mkLit gs (l.getD i noLL) (if i = 0 then (bodyS gs l st i).2 else putS gs (bodyS gs l st i).2 [44])).1], (mkLit gs (l.getD i noLL) (if i = 0 then (bodyS gs l st i).2 else putS gs (bodyS gs l st i).2 [44])).2)
def mkBody (gs : List Int) (l : List LL) (st : MS) : List LitT × MS := bodyS gs l st (min l.length 16)
def mkClause (gs : List Int) (c : CC) (st : MS) : ClauseT × MS :=
  if c.2.length = 0 then (((mkAtom gs false c.1 st).1, []), putS gs (mkAtom gs false c.1 st).2 [46])
  else (((mkAtom gs false c.1 st).1, (mkBody gs c.2 (putS gs (mkAtom gs false c.1 st).2 [58, 45])).1), putS gs (mkBody gs c.2 (putS gs (mkAtom gs false c.1 st).2 [58, 45])).2 [46])
def noCC : CC := ((0, []), [])
def progS (gs : List Int) (l : List CC) : Nat → List ClauseT × MS
  | 0 => ([], ([], 0))
  | i + 1 => ((progS gs l i).1 ++ [(mkClause gs (l.getD i noCC) (progS gs l i).2).1], (mkClause gs (l.getD i noCC) (progS gs l i).2).2)
def factsS (gs : List Int) (l : List CC) : Nat → List AtomT × MS
  | 0 => ([], ([], 0))
  | i + 1 => ((factsS gs l i).1 ++ [(mkAtom gs true (l.getD i noCC).1 (factsS gs l i).2).1], putS gs (mkAtom gs true (l.getD i noCC).1 (factsS gs l i).2).2 [46])
end Edict
