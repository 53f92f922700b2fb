/- The reference's integers. -/
import Derived.Test.YtmnfhmbmifompaaDoorRefT
namespace Edict
def dropZ : List UInt8 → List UInt8
  | [] => []
  | c :: r => if c = 48 then dropZ r else c :: r
def aboveF (d b : List UInt8) : Bool := if (dropZ d).length = b.length then !(Go.Op.bytesLess (dropZ d) b || decide (dropZ d = b)) else decide (b.length < (dropZ d).length)
theorem decA_split : ∀ (l : List UInt8) (a : Nat), decA a l = a * 10 ^ l.length + decA 0 l
  | [], a => by simp [decA]
  | c :: r, a => by
    have h1 : decA a (c :: r) = decA (a * 10 + (c.toNat - 48)) r := rfl
    have h2 : decA 0 (c :: r) = decA (0 * 10 + (c.toNat - 48)) r := rfl
    rw [h1, h2, decA_split r, decA_split r (0 * 10 + _), List.length_cons, Nat.pow_succ, Nat.add_mul, Nat.add_mul]
    have : a * 10 * 10 ^ r.length = a * (10 ^ r.length * 10) := by rw [Nat.mul_assoc, Nat.mul_comm 10]
    omega
theorem decV_cons (c : UInt8) (r : List UInt8) : decV (c :: r) = (c.toNat - 48) * 10 ^ r.length + decV r := by
  have h1 : decV (c :: r) = decA (0 * 10 + (c.toNat - 48)) r := rfl
  rw [h1, decA_split]; simp [decV, decA]
theorem decV_lt : ∀ (l : List UInt8), (∀ c ∈ l, dgB c.toNat = true) → decV l < 10 ^ l.length
  | [], _ => by decide
  | c :: r, h => by
    have h1 := decV_lt r (fun x hx => h x (by simp [hx]))
    have h2 := h c (by simp)
    unfold dgB at h2
    simp only [Bool.and_eq_true, decide_eq_true_eq] at h2
    rw [decV_cons, List.length_cons, Nat.pow_succ]
    have : (c.toNat - 48) * 10 ^ r.length ≤ 9 * 10 ^ r.length := Nat.mul_le_mul_right _ (by omega)
    omega
theorem less_dec : ∀ (x y : List UInt8), x.length = y.length → (∀ c ∈ x, dgB c.toNat = true) → (∀ c ∈ y, dgB c.toNat = true) → Go.Op.bytesLess x y = decide (decV x < decV y)
  | [], [], _, _, _ => by simp [Go.Op.bytesLess]
  | [], _ :: _, h, _, _ => by simp at h
  | _ :: _, [], h, _, _ => by simp at h
  | a :: x, b :: y, hl, hx, hy => by
    have hl' : x.length = y.length := by simpa using hl
    have ih := less_dec x y hl' (fun c hc => hx c (by simp [hc])) (fun c hc => hy c (by simp [hc]))
    have ha := hx a (by simp); have hb := hy b (by simp)
    have h1 := decV_lt x (fun c hc => hx c (by simp [hc]))
    have h2 := decV_lt y (fun c hc => hy c (by simp [hc]))
    unfold dgB at ha hb
    simp only [Bool.and_eq_true, decide_eq_true_eq] at ha hb
    rw [← hl'] at h2
    unfold Go.Op.bytesLess
    rw [ih, decV_cons, decV_cons, ← hl']
    apply Bool.eq_iff_iff.2
    simp only [Bool.or_eq_true, Bool.and_eq_true, decide_eq_true_eq, beq_iff_eq, UInt8.lt_iff_toNat_lt]
    by_cases hab : a = b
    · subst hab
      simp only [true_and]; omega
    · have hab' : a.toNat ≠ b.toNat := fun h => hab (UInt8.toNat_inj.1 h)
      simp only [hab, false_and, or_false]
      rcases Nat.lt_or_ge a.toNat b.toNat with q | q
      · have : (a.toNat - 48 + 1) * 10 ^ x.length ≤ (b.toNat - 48) * 10 ^ x.length := Nat.mul_le_mul_right _ (by omega)
        rw [Nat.add_mul] at this
        omega
      · have : (b.toNat - 48 + 1) * 10 ^ x.length ≤ (a.toNat - 48) * 10 ^ x.length := Nat.mul_le_mul_right _ (by omega)
        rw [Nat.add_mul] at this
        omega
theorem dec_inj : ∀ (x y : List UInt8), x.length = y.length → (∀ c ∈ x, dgB c.toNat = true) → (∀ c ∈ y, dgB c.toNat = true) → decV x = decV y → x = y
  | [], [], _, _, _, _ => rfl
  | [], _ :: _, h, _, _, _ => by simp at h
  | _ :: _, [], h, _, _, _ => by simp at h
  | a :: x, b :: y, hl, hx, hy, he => by
    have hl' : x.length = y.length := by simpa using hl
    have ha := hx a (by simp); have hb := hy b (by simp)
    have h1 := decV_lt x (fun c hc => hx c (by simp [hc]))
    have h2 := decV_lt y (fun c hc => hy c (by simp [hc]))
    unfold dgB at ha hb
    simp only [Bool.and_eq_true, decide_eq_true_eq] at ha hb
    rw [← hl'] at h2
    rw [decV_cons, decV_cons, ← hl'] at he
    have hab : a.toNat = b.toNat := by
      rcases Nat.lt_trichotomy a.toNat b.toNat with q | q | q
      · have : (a.toNat - 48 + 1) * 10 ^ x.length ≤ (b.toNat - 48) * 10 ^ x.length := Nat.mul_le_mul_right _ (by omega)
        rw [Nat.add_mul] at this; omega
      · exact q
      · have : (b.toNat - 48 + 1) * 10 ^ x.length ≤ (a.toNat - 48) * 10 ^ x.length := Nat.mul_le_mul_right _ (by omega)
        rw [Nat.add_mul] at this; omega
    have hab' : a = b := UInt8.toNat_inj.1 hab
    subst hab'
    rw [dec_inj x y hl' (fun c hc => hx c (by simp [hc])) (fun c hc => hy c (by simp [hc])) (by omega)]
theorem dropZ_dec : ∀ (l : List UInt8), decV (dropZ l) = decV l
  | [] => rfl
  | c :: r => by
    unfold dropZ
    split
    · rename_i h
      rw [dropZ_dec r, decV_cons, h]; simp
    · rfl
theorem dropZ_mem : ∀ (l : List UInt8) (c : UInt8), c ∈ dropZ l → c ∈ l
  | [], c, h => h
  | a :: r, c, h => by
    unfold dropZ at h
    split at h
    · exact List.mem_cons_of_mem _ (dropZ_mem r c h)
    · exact h
theorem dropZ_head : ∀ (l : List UInt8), (∀ c ∈ l, dgB c.toNat = true) → dropZ l = [] ∨ 10 ^ ((dropZ l).length - 1) ≤ decV (dropZ l)
  | [], _ => .inl rfl
  | a :: r, h => by
    unfold dropZ
    split
    · exact dropZ_head r (fun c hc => h c (by simp [hc]))
    · rename_i hne
      right
      have ha := h a (by simp)
      unfold dgB at ha
      simp only [Bool.and_eq_true, decide_eq_true_eq] at ha
      have : a.toNat ≠ 48 := fun q => hne (UInt8.toNat_inj.1 q)
      rw [decV_cons, List.length_cons, Nat.add_sub_cancel]
      have : 1 * 10 ^ r.length ≤ (a.toNat - 48) * 10 ^ r.length := Nat.mul_le_mul_right _ (by omega)
      omega
theorem above_dec {d b : List UInt8} (hd : ∀ c ∈ d, dgB c.toNat = true) (hb : ∀ c ∈ b, dgB c.toNat = true) (hb1 : 10 ^ (b.length - 1) ≤ decV b) : aboveF d b = decide (decV b < decV d) := by
  unfold aboveF
  have hd' : ∀ c ∈ dropZ d, dgB c.toNat = true := fun c hc => hd c (dropZ_mem d c hc)
  have hb2 := decV_lt b hb
  have hd2 := decV_lt (dropZ d) hd'
  have hz := dropZ_dec d
  rw [← hz]
  split
  · rename_i hl
    rw [less_dec _ _ hl hd' hb]
    apply Bool.eq_iff_iff.2
    simp only [Bool.not_eq_true', Bool.or_eq_false_iff, decide_eq_false_iff_not, decide_eq_true_eq]
    constructor
    · rintro ⟨h1, h2⟩
      have : decV (dropZ d) ≠ decV b := fun h => h2 (dec_inj _ _ hl hd' hb h)
      omega
    · intro h
      exact ⟨by omega, fun e => by rw [e] at h; omega⟩
  · rename_i hl
    apply decide_eq_decide.2
    constructor
    · intro h
      rcases dropZ_head d hd with q | q
      · rw [q] at h; simp at h
      · have : 10 ^ b.length ≤ 10 ^ ((dropZ d).length - 1) := Nat.pow_le_pow_right (by decide) (by omega)
        omega
    · intro h
      rcases Nat.lt_or_ge b.length (dropZ d).length with q | q
      · exact q
      · have : 10 ^ (dropZ d).length ≤ 10 ^ (b.length - 1) := Nat.pow_le_pow_right (by decide) (by omega)
        omega
theorem take_dec {d : List UInt8} {i : Nat} : decV (d.take i) ≤ decV d := by
  have h : decV d = decA (decV (d.take i)) (d.drop i) := by
    unfold decV decA
    rw [← List.foldl_append, List.take_append_drop]
  rw [h]; exact decA_ge _ _
theorem take_snoc {d : List UInt8} {i : Nat} (h : i < d.length) : decV (d.take (i + 1)) = decV (d.take i) * 10 + ((d.getD i 0).toNat - 48) := by
  have hx : d[i]? = some d[i] := by simp [h]
  rw [List.take_add_one, hx]
  unfold decV
  rw [List.foldl_append]
  simp [List.getD_eq_getElem?_getD, h]
end Edict
namespace Go.Proofs.YtmnfhmbmifompaaDoor
open Go Go.Ev Edict
def C_above (vs : List Value) (h : H) (K : Value → H → Prop) : Prop := ∃ (d b : List UInt8), vs = [str d, str b] ∧ d.length ≤ 65536 ∧ b.length ≤ 65536 ∧ K (.bool (aboveF d b)) h
theorem rfAbove_ok {vs : List Value} {h : H} {K : Value → H → Prop} {KP : List PanicEntry → H → Prop} (hC : C_above vs h K) : HCX Tryd.prog 140 vs h K KP := by
  obtain ⟨d, b, rfl, hd, hb, hK⟩ := hC
  refine rfAbove_H (fun _ _ _ _ _ => False) (fun _ _ _ _ _ h => h.elim) _ _ ?_
  simp (disch := first | omega | (simp only [e_ssz, e_psz, e_hszs, List.length_cons, List.length_nil]; try omega; done)) only [go_sem, rfAbove_S, rfAbove_E]
  refine wpS_loop (fun (t : List UInt8) σ h' => σ 0 = str t ∧ σ 1 = str b ∧ h' = h ∧ t.length ≤ 65536 ∧ dropZ t = dropZ d) (fun t => t.length) d ⟨by simp [upd], by simp [upd], rfl, hd, rfl⟩ ?_
  rintro t σ h' ⟨e0, e1, rfl, htl, hz⟩
  have done : dropZ t = t → (t.length ≠ b.length → K (.bool (decide (b.length < t.length))) h') ∧ (t.length = b.length → K (.bool (!(Op.bytesLess t b || decide (t = b)))) h') := by
    intro hq
    unfold aboveF at hK
    rw [← hz, hq] at hK
    exact ⟨fun q => by rw [if_neg q] at hK; exact hK, fun q => by rw [if_pos q] at hK; exact hK⟩
  have fin : dropZ t = t → (decide (((b.length : Nat) : Int) < ((t.length : Nat) : Int))) = decide (b.length < t.length) := fun _ => decide_eq_decide.2 (by omega)
  cases t with
  | nil =>
    have dn := done rfl
    by_cases q : ([] : List UInt8).length = b.length
    · have dn := dn.2 q
      simp (disch := first | omega | (simp only [e_ssz, e_psz, e_hszs, List.length_cons, List.length_nil]; try omega; done)) only [↓reduceIte, go_sem, rfAbove_L1, e0, e1, eq_true (show ((0 : Int)) = ((b.length : Nat) : Int) by simp only [List.length_nil] at q; omega)]
      exact dn
    · have dn := dn.1 q
      have f := fin rfl
      simp only [List.length_nil] at f dn q
      have f' : decide (((b.length : Nat) : Int) < 0) = decide (b.length < 0) := f
      simp (disch := first | omega | (simp only [e_ssz, e_psz, e_hszs, List.length_cons, List.length_nil]; try omega; done)) only [↓reduceIte, go_sem, rfAbove_L1, e0, e1, eq_false (show ¬ ((0 : Int)) = ((b.length : Nat) : Int) by omega)]
      exact dn
  | cons c r =>
    have hc : ((c :: r).getD 0 0) = c := rfl
    by_cases h48 : c = 48
    · have h2 : (c.toNat : Int) = 48 := by rw [h48]; rfl
      simp only [List.length_cons] at htl
      simp (disch := first | omega | (simp only [e_ssz, e_psz, e_hszs, List.length_cons, List.length_nil]; try omega; done)) only [↓reduceIte, go_sem, rfAbove_L1, e0, e1, hc, h2, eq_true (show (0 : Int) < ((r.length + 1 : Nat) : Int) by omega)]
      exact ⟨by omega, by omega, by rw [← hz, h48]; rfl, by omega⟩
    · have hdz : dropZ (c :: r) = c :: r := by unfold dropZ; rw [if_neg h48]
      have h2 : ¬ (c.toNat : Int) = 48 := fun q => h48 (UInt8.toNat_inj.1 (by show c.toNat = 48; omega))
      have dn := done hdz
      have f := fin hdz
      by_cases q : (c :: r).length = b.length
      · have dn := dn.2 q
        simp (disch := first | omega | (simp only [e_ssz, e_psz, e_hszs, List.length_cons, List.length_nil]; try omega; done)) only [↓reduceIte, go_sem, rfAbove_L1, e0, e1, hc, eq_false h2]
        exact ⟨fun h => h, fun h => absurd q h, fun _ => dn⟩
      · have dn := dn.1 q
        simp (disch := first | omega | (simp only [e_ssz, e_psz, e_hszs, List.length_cons, List.length_nil]; try omega; done)) only [↓reduceIte, go_sem, rfAbove_L1, e0, e1, hc, eq_false h2]
        exact ⟨fun h => h, fun _ => dn, fun h => absurd q h⟩
def C_rint (vs : List Value) (h : H) (K : Value → H → Prop) : Prop := ∃ (u : U) (s : List UInt8) (o b : Nat), vs = [str s, .int .i64 o, .int .i64 b] ∧ o ≤ b ∧ b < s.length ∧ s.length ≤ 65536 ∧ dgB (bat s b) = true ∧ ∀ u' h', Step S0 u h u' h' → K (resV (intF s o b)) h'
def G_rfInteger : Ctr := fun f vs h K _ => (f = 139 ∧ C_rrun vs h K) ∨ (f = 103 ∧ C_rfault vs h K) ∨ (f = 126 ∧ C_b dgB vs h K) ∨ (f = 140 ∧ C_above vs h K)
theorem G_rfInteger_ok : GOk Tryd.prog G_rfInteger := by
  rintro f vs h K KP (⟨rfl, hC⟩ | ⟨rfl, hC⟩ | ⟨rfl, hC⟩ | ⟨rfl, hC⟩)
  · exact rfRun_ok hC
  · exact rfFault_ok hC
  · exact rfDigit_ok hC
  · exact rfAbove_ok hC
def bndL (neg : Bool) : List UInt8 := if neg then [57, 50, 50, 51, 51, 55, 50, 48, 51, 54, 56, 53, 52, 55, 55, 53, 56, 48, 56] else [57, 50, 50, 51, 51, 55, 50, 48, 51, 54, 56, 53, 52, 55, 55, 53, 56, 48, 55]
theorem bndL_ok (neg : Bool) : (∀ c ∈ bndL neg, dgB c.toNat = true) ∧ 10 ^ ((bndL neg).length - 1) ≤ decV (bndL neg) ∧ decV (bndL neg) = if neg then 9223372036854775808 else 9223372036854775807 := by cases neg <;> exact ⟨by decide, by decide, by decide⟩
theorem rfInteger_ok {vs : List Value} {h : H} {K : Value → H → Prop} {KP : List PanicEntry → H → Prop} (hC : C_rint vs h K) : HCX Tryd.prog 127 vs h K KP := by
  obtain ⟨u, s, o, b, rfl, hob, hbl, hl, hdg, hK⟩ := hC
  have hr1 := run_word hbl (by unfold wdB; rw [hdg]; rfl)
  have hr2 := runF_le s b (by omega)
  refine rfInteger_H G_rfInteger G_rfInteger_ok _ _ _ ?_
  have sp : Step S0 u h _ _ := Step.push0 S0 u h tok0.toArray 75
  have T0 : Blk (ub u h.size 0) (h.push (.cells tok0.toArray 75)) h.size tok0 := Blk.new tok0 _
  have sp1 := sp.pushR (c := (fltE 0 0).toArray) (t := 27)
  have T1 := T0.pushR (c := (fltE 0 0).toArray) (t := 27)
  have F1 := Blk.new (u := ub u h.size 0) (h := h.push (.cells tok0.toArray 75)) (fltE 0 0) 27
  simp only [e_psz] at sp1 T1 F1
  simp (disch := first | omega | (simp only [e_ssz, e_psz, e_hszs, List.length_cons, List.length_nil]; try omega; done)) only [↓reduceIte, go_sem, rfInteger_S, rfInteger_E]
  refine effS_call (.inl ⟨rfl, s, b, rfl, by omega, hl, ⟨by simp (disch := first | omega | (simp only [e_ssz, e_psz, e_hszs, List.length_cons, List.length_nil]; try omega; done)) only [go_sem], ?_⟩⟩)
  obtain ⟨e, he⟩ : ∃ e, e = runF s b := ⟨_, rfl⟩
  rw [← he] at hr1 hr2 ⊢
  simp (disch := first | omega | (simp only [e_ssz, e_psz, e_hszs, List.length_cons, List.length_nil]; try omega; done)) only [↓reduceIte, go_sem]
  obtain ⟨h1, hh1⟩ : ∃ h1, h1 = (h.push (.cells tok0.toArray 75)).push (.cells (fltE 0 0).toArray 27) := ⟨_, rfl⟩
  rw [← hh1] at sp1 T1 F1
  simp only [tok0, fltE] at hh1
  rw [← hh1]
  clear sp T0
  obtain ⟨u1, hu1⟩ : ∃ u1, u1 = ub (ub u h.size 0) (h.size + 1) 0 := ⟨_, rfl⟩
  rw [← hu1] at sp1 T1 F1
  clear hu1
  have T11 := T1.1; have F11 := F1.1
  obtain ⟨I, hI⟩ : ∃ I : Nat → Env → H → Prop, I = fun j σ h' => σ 0 = str s ∧ σ 1 = .int .i64 o ∧ σ 2 = .int .i64 b ∧ σ 6 = .pointer (some ⟨h.size, 0, none⟩) ∧ σ 7 = .pointer (some ⟨h.size + 1, 0, none⟩) ∧ σ 8 = .int .i64 e ∧ σ 9 = .int .i64 j ∧ h' = h1 ∧ b ≤ j ∧ j ≤ e ∧ ∀ i, b ≤ i → i < j → dgB (bat s i) = true := ⟨_, rfl⟩
  refine wpS_loop I (fun j => e - j) b (by
    rw [hI]
    exact ⟨by simp [upd], by simp [upd], by simp [upd], by simp [upd], by simp [upd], by simp [upd], by simp [upd], rfl, by omega, by omega, fun i h1 h2 => by omega⟩) ?_
  intro j σ h' hy
  rw [hI] at hy
  obtain ⟨e0, e1, e2, e6, e7, e8, e9, rfl, hbj, hje, hall⟩ := hy
  clear hh1
  by_cases hj : j < e
  · simp (disch := first | omega | (simp only [e_ssz, e_psz, e_hszs, List.length_cons, List.length_nil]; try omega; done)) only [↓reduceIte, go_sem, rfInteger_L1, e0, e8, e9, eq_true hj, eq_true (show j < s.length by omega), batf]
    refine effS_call (.inr (.inr (.inl ⟨rfl, bat s j, rfl, ⟨by simp (disch := first | omega | (simp only [e_ssz, e_psz, e_hszs, List.length_cons, List.length_nil]; try omega; done)) only [go_sem], ?_⟩⟩)))
    cases hd : dgB (bat s j) with
    | true =>
      simp (disch := first | omega | (simp only [e_ssz, e_psz, e_hszs, List.length_cons, List.length_nil]; try omega; done)) only [↓reduceIte, go_sem, e9]
      refine ⟨j + 1, ?_, by omega⟩
      rw [hI]
      exact ⟨by simp [upd, e0], by simp [upd, e1], by simp [upd, e2], by simp [upd, e6], by simp [upd, e7], by simp [upd, e8], by simp [upd], rfl, by omega, by omega, fun i q1 q2 => by
        by_cases q : i = j
        · rw [q]; exact hd
        · exact hall i q1 (by omega)⟩
    | false =>
      have hbad : intF s o b = .bad 13 o := int_bad (by
        rw [← he]
        cases hq : allDg s b e with
        | false => rfl
        | true => have := (allDg_iff hr2).1 hq j hbj hj; rw [hd] at this; cases this)
      rw [hbad] at hK
      simp (disch := first | omega | (simp only [e_ssz, e_psz, e_hszs, List.length_cons, List.length_nil]; try omega; done)) only [↓reduceIte, go_sem, e1]
      refine effS_call (.inr (.inl ⟨rfl, u1, 13, o, rfl, fun u4 h4 s4 => ⟨by simp (disch := first | omega | (simp only [e_ssz, e_psz, e_hszs, List.length_cons, List.length_nil]; try omega; done)) only [go_sem], ?_⟩⟩))
      have T4 := T1.step0 s4
      have F4 := F1.step0 s4
      obtain ⟨r1, r2, r3, -⟩ := res2 (la := tok0) (lb := fltE 13 o) (sp1.trans0 s4) T4 F4 (by omega) (by omega) (by omega) rfl rfl
      have T41 := T4.1
      have F41 := F4.1
      simp only [tok0, fltE] at r1 r2 r3
      simp (disch := first | omega | (simp only [e_ssz, e_psz, e_hszs, List.length_cons, List.length_nil]; try omega; done)) only [↓reduceIte, go_sem, e6, e7, tok0, fltE, T4.2.1, T4.2.2.1, F4.2.1, F4.2.2.1, hsets_hsz, hsets_hfr, r2.at, r3.at, r2.2.1, r3.2.1]
      exact hK _ _ r1
  · obtain rfl : j = e := by omega
    have hdall : allDg s b j = true := (allDg_iff hr2).2 hall
    obtain ⟨d, hd⟩ : ∃ d, d = sub s b j := ⟨_, rfl⟩
    have hdd : ∀ c ∈ d, dgB c.toNat = true := by rw [hd]; exact fun c hc => (List.all_eq_true.1 hdall) c hc
    have hdl : d.length = j - b := by rw [hd]; exact sub_len hr2
    have hd' : (s.take j).drop b = d := by rw [hd]; rfl
    have hie : intF s o b = if (if o < b then decV d ≤ 9223372036854775808 else decV d ≤ 9223372036854775807) then .ok (3, [], if o < b then -(decV d : Int) else (decV d : Int), 0, o, j) else .bad 13 o := by
      unfold intF
      rw [← he, if_pos hdall, ← hd]
      by_cases q : o < b
      · simp only [if_pos q]
      · simp only [if_neg q]
    obtain ⟨neg, hneg⟩ : ∃ neg : Bool, neg = decide (o < b) := ⟨_, rfl⟩
    obtain ⟨bk1, bk2, bk3⟩ := bndL_ok neg
    have hab := above_dec hdd bk1 bk2
    have hbk : aboveF d (bndL neg) = !decide (if o < b then decV d ≤ 9223372036854775808 else decV d ≤ 9223372036854775807) := by
      rw [hab, bk3, hneg]
      by_cases q : o < b
      · simp only [if_pos q, decide_eq_true q, if_true]
        apply Bool.eq_iff_iff.2; simp
      · simp only [if_neg q, decide_eq_false q, Bool.false_eq_true, if_false]
        apply Bool.eq_iff_iff.2; simp
    have step : ∀ (σ' : Env), σ' 0 = str s → σ' 1 = .int .i64 o → σ' 2 = .int .i64 b → σ' 6 = .pointer (some ⟨h.size, 0, none⟩) → True := fun _ _ _ _ _ => trivial
    clear step
    by_cases hob2 : o < b
    · rw [show neg = true from by rw [hneg]; exact decide_eq_true hob2] at hbk bk1 bk2 bk3 hab
      simp only [if_pos hob2] at hie hbk
      simp (disch := first | omega | (simp only [e_ssz, e_psz, e_hszs, List.length_cons, List.length_nil]; try omega; done)) only [↓reduceIte, go_sem, rfInteger_L1, e0, e1, e2, e8, e9, hd', eq_true (show b ≤ j by omega), eq_true hr2, eq_true (show (o : Int) < (b : Int) by omega)]
      refine effS_call (.inr (.inr (.inr ⟨rfl, d, bndL true, rfl, by omega, by decide, ⟨by simp (disch := first | omega | (simp only [e_ssz, e_psz, e_hszs, List.length_cons, List.length_nil]; try omega; done)) only [go_sem], ?_⟩⟩)))
      by_cases hlim : decV d ≤ 9223372036854775808
      · rw [if_pos hlim] at hie
        rw [hie] at hK
        rw [hbk, decide_eq_true hlim]
        obtain ⟨h0, hh0⟩ : ∃ h0, h0 = h' := ⟨_, rfl⟩
        subst hh0
        simp (disch := first | omega | (simp only [e_ssz, e_psz, e_hszs, List.length_cons, List.length_nil]; try omega; done)) only [↓reduceIte, go_sem]
        obtain ⟨J, hJ⟩ : ∃ J : Nat → Env → H → Prop, J = fun i σ h' => σ 1 = .int .i64 o ∧ σ 2 = .int .i64 b ∧ σ 6 = .pointer (some ⟨h.size, 0, none⟩) ∧ σ 7 = .pointer (some ⟨h.size + 1, 0, none⟩) ∧ σ 8 = .int .i64 j ∧ σ 10 = str d ∧ σ 12 = .int .i64 (-(decV (List.take i d) : Int)) ∧ σ 13 = .int .i64 i ∧ h' = h0 ∧ i ≤ d.length := ⟨_, rfl⟩
        refine wpS_loop J (fun i => d.length - i) 0 (by
          rw [hJ]
          exact ⟨by simp [upd, e1], by simp [upd, e2], by simp [upd, e6], by simp [upd, e7], by simp [upd, e8], by simp [upd], by simp [upd, decV], by simp [upd], rfl, by omega⟩) ?_
        clear hI I e0 e1 e2 e6 e7 e8 e9
        intro i σ1 h2 hy
        rw [hJ] at hy
        obtain ⟨e1, e2, e6, e7, e8, e10, e12, e13, rfl, hi⟩ := hy
        by_cases hlt : i < d.length
        · have hsn := take_snoc hlt
          have hle := take_dec (d := d) (i := i + 1)
          have hm : d[i] ∈ d := List.getElem_mem hlt
          have hc := hdd _ hm
          have hcg : d.getD i 0 = d[i] := by simp [List.getD_eq_getElem?_getD, hlt]
          obtain ⟨c, hcc⟩ : ∃ c, c = (d.getD i 0).toNat := ⟨_, rfl⟩
          rw [← hcc] at hsn
          rw [← hcg, ← hcc] at hc
          unfold dgB at hc
          simp only [Bool.and_eq_true, decide_eq_true_eq] at hc
          simp (disch := first | omega | (simp only [e_ssz, e_psz, e_hszs, List.length_cons, List.length_nil]; try omega; done)) only [↓reduceIte, go_sem, rfInteger_L2, e1, e2, e10, e12, e13, hlt, ← hcc, eq_true (show (o : Int) < (b : Int) by omega), wr8, wr64]
          refine ⟨i + 1, ?_, by omega⟩
          rw [hJ]
          exact ⟨by simp [upd, e1], by simp [upd, e2], by simp [upd, e6], by simp [upd, e7], by simp [upd, e8], by simp [upd, e10], by simp only [upd]; simp; omega, by simp [upd], rfl, by omega⟩
        · obtain rfl : i = d.length := by omega
          rw [List.take_length] at e12
          obtain ⟨r1, r2, r3, -⟩ := res2 (la := [.int .i64 3, str [], .int .i64 (-(decV d : Int)), .int .i64 0, .int .i64 o, .int .i64 j]) (lb := fltE 0 0) sp1 T1 F1 (by omega) (by omega) (by omega) rfl rfl
          have T12 := T1.2.1
          have F12 := F1.2.1
          simp only [tok0, fltE, List.length_cons, List.length_nil] at r1 r2 r3 T12 F12
          simp (disch := first | omega | (simp only [e_ssz, e_psz, e_hszs, List.length_cons, List.length_nil]; try omega; done)) only [↓reduceIte, go_sem, rfInteger_L2, e1, e6, e7, e8, e10, e12, e13, T12, T1.2.2.1, F12, F1.2.2.1, hsets_hsz, hsets_hfr, r2.at, r3.at, r2.2.1, r3.2.1]
          exact hK _ _ r1
      · rw [if_neg hlim] at hie
        rw [hie] at hK
        rw [hbk, decide_eq_false hlim]
        simp (disch := first | omega | (simp only [e_ssz, e_psz, e_hszs, List.length_cons, List.length_nil]; try omega; done)) only [↓reduceIte, go_sem, e1]
        refine effS_call (.inr (.inl ⟨rfl, u1, 13, o, rfl, fun u4 h4 s4 => ⟨by simp (disch := first | omega | (simp only [e_ssz, e_psz, e_hszs, List.length_cons, List.length_nil]; try omega; done)) only [go_sem], ?_⟩⟩))
        have T4 := T1.step0 s4
        have F4 := F1.step0 s4
        obtain ⟨r1, r2, r3, -⟩ := res2 (la := tok0) (lb := fltE 13 o) (sp1.trans0 s4) T4 F4 (by omega) (by omega) (by omega) rfl rfl
        have T41 := T4.1
        have F41 := F4.1
        simp only [tok0, fltE] at r1 r2 r3
        simp (disch := first | omega | (simp only [e_ssz, e_psz, e_hszs, List.length_cons, List.length_nil]; try omega; done)) only [↓reduceIte, go_sem, e6, e7, tok0, fltE, T4.2.1, T4.2.2.1, F4.2.1, F4.2.2.1, hsets_hsz, hsets_hfr, r2.at, r3.at, r2.2.1, r3.2.1]
        exact hK _ _ r1
    · rw [show neg = false from by rw [hneg]; exact decide_eq_false hob2] at hbk bk1 bk2 bk3 hab
      simp only [if_neg hob2] at hie hbk
      simp (disch := first | omega | (simp only [e_ssz, e_psz, e_hszs, List.length_cons, List.length_nil]; try omega; done)) only [↓reduceIte, go_sem, rfInteger_L1, e0, e1, e2, e8, e9, hd', eq_true (show b ≤ j by omega), eq_true hr2, eq_false (show ¬ (o : Int) < (b : Int) by omega)]
      refine effS_call (.inr (.inr (.inr ⟨rfl, d, bndL false, rfl, by omega, by decide, ⟨by simp (disch := first | omega | (simp only [e_ssz, e_psz, e_hszs, List.length_cons, List.length_nil]; try omega; done)) only [go_sem], ?_⟩⟩)))
      by_cases hlim : decV d ≤ 9223372036854775807
      · rw [if_pos hlim] at hie
        rw [hie] at hK
        rw [hbk, decide_eq_true hlim]
        obtain ⟨h0, hh0⟩ : ∃ h0, h0 = h' := ⟨_, rfl⟩
        subst hh0
        simp (disch := first | omega | (simp only [e_ssz, e_psz, e_hszs, List.length_cons, List.length_nil]; try omega; done)) only [↓reduceIte, go_sem]
        obtain ⟨J, hJ⟩ : ∃ J : Nat → Env → H → Prop, J = fun i σ h' => σ 1 = .int .i64 o ∧ σ 2 = .int .i64 b ∧ σ 6 = .pointer (some ⟨h.size, 0, none⟩) ∧ σ 7 = .pointer (some ⟨h.size + 1, 0, none⟩) ∧ σ 8 = .int .i64 j ∧ σ 10 = str d ∧ σ 12 = .int .i64 ((decV (List.take i d) : Int)) ∧ σ 13 = .int .i64 i ∧ h' = h0 ∧ i ≤ d.length := ⟨_, rfl⟩
        refine wpS_loop J (fun i => d.length - i) 0 (by
          rw [hJ]
          exact ⟨by simp [upd, e1], by simp [upd, e2], by simp [upd, e6], by simp [upd, e7], by simp [upd, e8], by simp [upd], by simp [upd, decV], by simp [upd], rfl, by omega⟩) ?_
        clear hI I e0 e1 e2 e6 e7 e8 e9
        intro i σ1 h2 hy
        rw [hJ] at hy
        obtain ⟨e1, e2, e6, e7, e8, e10, e12, e13, rfl, hi⟩ := hy
        by_cases hlt : i < d.length
        · have hsn := take_snoc hlt
          have hle := take_dec (d := d) (i := i + 1)
          have hm : d[i] ∈ d := List.getElem_mem hlt
          have hc := hdd _ hm
          have hcg : d.getD i 0 = d[i] := by simp [List.getD_eq_getElem?_getD, hlt]
          obtain ⟨c, hcc⟩ : ∃ c, c = (d.getD i 0).toNat := ⟨_, rfl⟩
          rw [← hcc] at hsn
          rw [← hcg, ← hcc] at hc
          unfold dgB at hc
          simp only [Bool.and_eq_true, decide_eq_true_eq] at hc
          simp (disch := first | omega | (simp only [e_ssz, e_psz, e_hszs, List.length_cons, List.length_nil]; try omega; done)) only [↓reduceIte, go_sem, rfInteger_L2, e1, e2, e10, e12, e13, hlt, ← hcc, eq_false (show ¬ (o : Int) < (b : Int) by omega), wr8, wr64]
          refine ⟨i + 1, ?_, by omega⟩
          rw [hJ]
          exact ⟨by simp [upd, e1], by simp [upd, e2], by simp [upd, e6], by simp [upd, e7], by simp [upd, e8], by simp [upd, e10], by simp only [upd]; simp; omega, by simp [upd], rfl, by omega⟩
        · obtain rfl : i = d.length := by omega
          rw [List.take_length] at e12
          obtain ⟨r1, r2, r3, -⟩ := res2 (la := [.int .i64 3, str [], .int .i64 ((decV d : Int)), .int .i64 0, .int .i64 o, .int .i64 j]) (lb := fltE 0 0) sp1 T1 F1 (by omega) (by omega) (by omega) rfl rfl
          have T12 := T1.2.1
          have F12 := F1.2.1
          simp only [tok0, fltE, List.length_cons, List.length_nil] at r1 r2 r3 T12 F12
          simp (disch := first | omega | (simp only [e_ssz, e_psz, e_hszs, List.length_cons, List.length_nil]; try omega; done)) only [↓reduceIte, go_sem, rfInteger_L2, e1, e6, e7, e8, e10, e12, e13, T12, T1.2.2.1, F12, F1.2.2.1, hsets_hsz, hsets_hfr, r2.at, r3.at, r2.2.1, r3.2.1]
          exact hK _ _ r1
      · rw [if_neg hlim] at hie
        rw [hie] at hK
        rw [hbk, decide_eq_false hlim]
        simp (disch := first | omega | (simp only [e_ssz, e_psz, e_hszs, List.length_cons, List.length_nil]; try omega; done)) only [↓reduceIte, go_sem, e1]
        refine effS_call (.inr (.inl ⟨rfl, u1, 13, o, rfl, fun u4 h4 s4 => ⟨by simp (disch := first | omega | (simp only [e_ssz, e_psz, e_hszs, List.length_cons, List.length_nil]; try omega; done)) only [go_sem], ?_⟩⟩))
        have T4 := T1.step0 s4
        have F4 := F1.step0 s4
        obtain ⟨r1, r2, r3, -⟩ := res2 (la := tok0) (lb := fltE 13 o) (sp1.trans0 s4) T4 F4 (by omega) (by omega) (by omega) rfl rfl
        have T41 := T4.1
        have F41 := F4.1
        simp only [tok0, fltE] at r1 r2 r3
        simp (disch := first | omega | (simp only [e_ssz, e_psz, e_hszs, List.length_cons, List.length_nil]; try omega; done)) only [↓reduceIte, go_sem, e6, e7, tok0, fltE, T4.2.1, T4.2.2.1, F4.2.1, F4.2.2.1, hsets_hsz, hsets_hfr, r2.at, r3.at, r2.2.1, r3.2.1]
        exact hK _ _ r1
end Go.Proofs.YtmnfhmbmifompaaDoor
