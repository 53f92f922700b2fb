/- PrintGiven: what is printed, plainly, and that it is read back. -/
import Derived.Test.YteiopegaiohglaaDoorPqM
import Derived.Test.YteiopegaiohglaaDoorWellG
namespace Edict
open Go
open Go.Lib (decDigits itoa)
def quoC (c : UInt8) : List UInt8 := if letF c.toNat ≠ 0 then [92, UInt8.ofNat (letF c.toNat)] else if 32 ≤ c.toNat ∧ c.toNat ≤ 126 then [c] else [92, 120, UInt8.ofNat (hexD (c.toNat / 16)), UInt8.ofNat (hexD (c.toNat % 16))]
def quoB (v : List UInt8) : List UInt8 := v.flatMap quoC
def quoF (v : List UInt8) : List UInt8 := 34 :: (quoB v ++ [34])
theorem quo_body {s : List UInt8} {o : Nat} : ∀ {v acc : List UInt8} {i : Nat}, acc.length + v.length ≤ 255 → i + (quoB v ++ [34]).length ≤ s.length → (∀ j, j < (quoB v ++ [34]).length → bat s (i + j) = bat (quoB v ++ [34]) j) →
    txtF s o i acc = .ok (4, acc ++ v, 0, 0, (o : Int), ((i + (quoB v ++ [34]).length : Nat) : Int))
  | [], acc, i, hl, hs, hb => by
    have b0 := hb 0 (by simp [quoB])
    have e : quoB [] ++ [34] = [34] := rfl
    rw [e] at b0 hs ⊢
    have b0' : bat s i = 34 := b0
    simp only [List.length_singleton] at hs ⊢
    rw [txtF, if_pos ⟨by omega, by omega⟩, if_pos b0', List.append_nil]
  | c :: v, acc, i, hl, hs, hb => by
    have e : quoB (c :: v) ++ [34] = quoC c ++ (quoB v ++ [34]) := by unfold quoB; rw [List.flatMap_cons, List.append_assoc]
    rw [e] at hs hb ⊢
    rw [List.length_append] at hs ⊢
    rw [List.length_cons] at hl
    have hc256 : c.toNat < 256 := UInt8.toNat_lt c
    have rest : ∀ n, n = (quoC c).length → txtF s o (i + n) (acc ++ [c]) = .ok (4, acc ++ c :: v, 0, 0, (o : Int), ((i + (n + (quoB v ++ [34]).length) : Nat) : Int)) := fun n hn => by
      subst hn
      have ih := quo_body (s := s) (o := o) (v := v) (acc := acc ++ [c]) (i := i + (quoC c).length) (by rw [List.length_append, List.length_singleton]; omega) (by omega) (fun j hj => by
        have h := hb ((quoC c).length + j) (by rw [List.length_append]; omega)
        rw [← Nat.add_assoc] at h
        rw [h, bat_appR])
      rw [ih, List.append_assoc, List.singleton_append, Nat.add_assoc]
    have hg : ∀ j, j < (quoC c).length → bat s (i + j) = bat (quoC c) j := fun j hj => by
      rw [hb j (by rw [List.length_append]; omega), bat_app hj]
    have hne : ¬ acc.length = 255 := by omega
    by_cases h1 : letF c.toNat ≠ 0
    · have hS : quoC c = [92, UInt8.ofNat (letF c.toNat)] := by unfold quoC; rw [if_pos h1]
      rw [hS] at rest hg hs ⊢
      obtain ⟨l1, l2⟩ := let_back h1
      have g0 : bat s i = 92 := hg 0 (by simp)
      have g1 : bat s (i + 1) = letF c.toNat := by have := hg 1 (by simp); rw [this]; show (UInt8.ofNat (letF c.toNat)).toNat = _; exact ofNat_back l1
      have he := l2 s i g1
      simp only [List.length_cons, List.length_nil] at hs rest ⊢
      rw [txtF, if_pos ⟨by omega, by omega⟩, if_neg (by omega), if_pos g0, he, if_neg (show ¬ (2 : Nat) = 0 by decide), if_neg hne]
      simp only [UInt8.ofNat_toNat]
      exact rest 2 rfl
    · by_cases h2 : 32 ≤ c.toNat ∧ c.toNat ≤ 126
      · have hS : quoC c = [c] := by unfold quoC; rw [if_neg h1, if_pos h2]
        rw [hS] at rest hg hs ⊢
        have h3 : letF c.toNat = 0 := by simpa using h1
        have g0 : bat s i = c.toNat := hg 0 (by simp)
        have h34 : ¬ c.toNat = 34 := fun q => by rw [q] at h3; exact absurd h3 (by decide)
        have h92 : ¬ c.toNat = 92 := fun q => by rw [q] at h3; exact absurd h3 (by decide)
        simp only [List.length_cons, List.length_nil] at hs rest ⊢
        rw [txtF, if_pos ⟨by omega, by omega⟩, if_neg (by omega), if_neg (by omega), if_neg hne, g0]
        simp only [UInt8.ofNat_toNat]
        exact rest 1 rfl
      · have hS : quoC c = [92, 120, UInt8.ofNat (hexD (c.toNat / 16)), UInt8.ofNat (hexD (c.toNat % 16))] := by unfold quoC; rw [if_neg h1, if_neg h2]
        rw [hS] at rest hg hs ⊢
        have d1 : c.toNat / 16 < 16 := by omega
        have d2 : c.toNat % 16 < 16 := Nat.mod_lt _ (by decide)
        have g0 : bat s i = 92 := hg 0 (by simp)
        have g1 : bat s (i + 1) = 120 := hg 1 (by simp)
        have g2 : bat s (i + 2) = hexD (c.toNat / 16) := by have := hg 2 (by simp); rw [this]; show (UInt8.ofNat (hexD (c.toNat / 16))).toNat = _; exact ofNat_back (hexD_lt d1)
        have g3 : bat s (i + 3) = hexD (c.toNat % 16) := by have := hg 3 (by simp); rw [this]; show (UInt8.ofNat (hexD (c.toNat % 16))).toNat = _; exact ofNat_back (hexD_lt d2)
        have he : escF s i = (c.toNat, 4) := by
          unfold escF
          rw [g1, g2, g3, hexV_D d1, hexV_D d2]
          simp only [show ¬ (120 : Nat) = 34 by decide, show ¬ (120 : Nat) = 92 by decide, show ¬ (120 : Nat) = 110 by decide, show ¬ (120 : Nat) = 116 by decide, show ¬ (120 : Nat) = 114 by decide, if_false, if_true]
          congr 1; omega
        simp only [List.length_cons, List.length_nil] at hs rest ⊢
        rw [txtF, if_pos ⟨by omega, by omega⟩, if_neg (by omega), if_pos g0, he, if_neg (show ¬ (4 : Nat) = 0 by decide), if_neg hne]
        simp only [UInt8.ofNat_toNat]
        exact rest 4 rfl
theorem quo_tok {v : List UInt8} (hv : v.length ≤ 255) : tokF (quoF v) 0 = .ok (4, v, 0, 0, 0, ((quoF v).length : Int)) := by
  have hl : (quoF v).length = 1 + (quoB v ++ [34]).length := by unfold quoF; rw [List.length_cons]; omega
  have b0 : bat (quoF v) 0 = 34 := rfl
  have := quo_body (s := quoF v) (o := 0) (v := v) (acc := []) (i := 1) (by simp; omega) (by omega) (fun j hj => by
    unfold quoF; rw [Nat.add_comm]; exact (bat_cons _ _).2 j)
  unfold tokF
  rw [if_neg (by omega), b0, if_neg (by decide), if_neg (fun q => absurd q.1 (by decide)), if_neg (by decide), if_pos rfl, this, hl, List.nil_append]
  rfl
/-! ### Bytes that may stand in a line -/
def LnB (c : UInt8) : Prop := 32 ≤ c.toNat ∧ c.toNat ≤ 126
theorem quoC_ln (c : UInt8) : (quoC c).length ≤ 4 ∧ ∀ x ∈ quoC c, LnB x := by
  have h : ∀ n : Fin 256, (quoC (UInt8.ofNat n.val)).length ≤ 4 ∧ ∀ x ∈ quoC (UInt8.ofNat n.val), 32 ≤ x.toNat ∧ x.toNat ≤ 126 := by decide +kernel
  have := h ⟨c.toNat, UInt8.toNat_lt c⟩
  simpa [LnB] using this
theorem quoB_ln : ∀ v : List UInt8, (quoB v).length ≤ 4 * v.length ∧ ∀ x ∈ quoB v, LnB x
  | [] => ⟨Nat.le_refl _, fun x hx => (by cases hx)⟩
  | c :: v => by
    obtain ⟨a, b⟩ := quoB_ln v
    obtain ⟨c1, c2⟩ := quoC_ln c
    have e : quoB (c :: v) = quoC c ++ quoB v := by unfold quoB; rw [List.flatMap_cons]
    rw [e, List.length_append, List.length_cons]
    exact ⟨by omega, fun x hx => (List.mem_append.1 hx).elim (c2 x) (b x)⟩
theorem quoF_ln (v : List UInt8) : (quoF v).length ≤ 4 * v.length + 2 ∧ ∀ x ∈ quoF v, LnB x := by
  obtain ⟨a, b⟩ := quoB_ln v
  unfold quoF
  refine ⟨by simp only [List.length_cons, List.length_append, List.length_nil]; omega, fun x hx => ?_⟩
  rcases List.mem_cons.1 hx with rfl | hx
  · exact ⟨by decide, by decide⟩
  · rcases List.mem_append.1 hx with hx | hx
    · exact b x hx
    · rw [List.mem_singleton.1 hx]; exact ⟨by decide, by decide⟩
/-! ### Names -/
theorem okB_nat (c : UInt8) : okB (c.toNat : Int) = wdB c.toNat := by
  have : ∀ n : Fin 256, okB ((n.val : Nat) : Int) = wdB n.val := by decide +kernel
  exact this ⟨c.toNat, UInt8.toNat_lt c⟩
theorem small_nat (c : UInt8) : smallB (c.toNat : Int) = smB c.toNat := by
  have : ∀ n : Fin 256, smallB ((n.val : Nat) : Int) = smB n.val := by decide +kernel
  exact this ⟨c.toNat, UInt8.toNat_lt c⟩
theorem name_word {s : List UInt8} (h : nameB s = true) : wordOKF s true = true := by
  cases s with
  | nil => simp [nameB, wordB] at h
  | cons b r =>
    unfold nameB wordB at h
    simp only [Bool.and_eq_true, Bool.not_eq_true', decide_eq_false_iff_not, decide_eq_true_eq, small_nat, okB_nat] at h
    obtain ⟨h1, h2, h3, h4⟩ := h
    have hb : bat (b :: r) 0 = b.toNat := rfl
    have hw : wdB b.toNat = true := by unfold smB at h3; unfold wdB; rw [h3]; simp
    unfold wordOKF
    rw [hb]
    simp only [if_true, h3, h4, hw, List.length_cons, List.all_cons, Bool.and_true, Bool.and_eq_true, decide_eq_true_eq]
    exact ⟨⟨by simp, h2⟩, h1⟩
theorem wd_ln {c : UInt8} (h : wdB c.toNat = true) : LnB c := by
  have : ∀ n : Fin 256, wdB n.val = true → 32 ≤ n.val ∧ n.val ≤ 126 := by decide +kernel
  exact this ⟨c.toNat, UInt8.toNat_lt c⟩ h
theorem word_ln {w : List UInt8} {name : Bool} (h : wordOKF w name = true) : w.length ≤ 64 ∧ w ≠ [] ∧ bat w 0 ≠ 61 ∧ wdB (bat w 0) = true ∧ ∀ x ∈ w, LnB x := by
  unfold wordOKF at h
  simp only [Bool.and_eq_true, decide_eq_true_eq, List.all_eq_true] at h
  obtain ⟨⟨⟨⟨h1, h2⟩, h3⟩, h4⟩, h5⟩ := h
  have hl := List.length_pos_iff.2 h1
  have hb : wdB (bat w 0) = true := by
    obtain ⟨c, hc, e⟩ := bat_mem hl
    rw [e]; exact h5 c hc
  exact ⟨h2, h1, fun q => (by rw [q] at hb; revert hb; decide), hb, fun x hx => wd_ln (h5 x hx)⟩
/-! ### Constants -/
def cstS (c : Const) : List UInt8 := if c.1 = 1 then itoa c.2.1 else if c.1 = 2 then c.2.2 else quoF c.2.2
def OkC (c : Const) : Prop := validB c = true ∧ (-9223372036854775808 ≤ c.2.1 ∧ c.2.1 ≤ 9223372036854775807)
theorem dec_len : ∀ (n u : Nat), u < 10 ^ (n + 1) → (decDigits u).length ≤ n + 1
  | 0, u, h => by rw [decDigits, dif_pos (by simpa using h)]; simp
  | n + 1, u, h => by
    rw [decDigits]
    split
    · simp
    · have := dec_len n (u / 10) (by rw [Nat.div_lt_iff_lt_mul (by decide)]; rw [Nat.pow_succ] at h; exact h)
      rw [List.length_append, List.length_singleton]; omega
theorem itoa_sp (v : Int) : itoa v = intSp v 0 := by
  unfold itoa intSp digF
  have e : List.replicate (zerosF 0) (48 : UInt8) = [] := rfl
  rw [e, List.nil_append]
  split
  · rfl
  · congr 1; omega
theorem dg_ln {c : UInt8} (h : dgB c.toNat = true) : LnB c ∧ c.toNat ≠ 61 := by
  unfold dgB at h
  simp only [Bool.and_eq_true, decide_eq_true_eq] at h
  exact ⟨⟨by omega, by omega⟩, by omega⟩
theorem itoa_ln {v : Int} (h : -9223372036854775808 ≤ v ∧ v ≤ 9223372036854775807) : (itoa v).length ≤ 20 ∧ bat (itoa v) 0 ≠ 61 ∧ ∀ x ∈ itoa v, LnB x := by
  obtain ⟨d1, d2, d3⟩ := dec_val v.natAbs
  have hl := dec_len 18 v.natAbs (by have : (10 : Nat) ^ (18 + 1) = 10000000000000000000 := by decide
                                     omega)
  rw [itoa_sp]
  unfold intSp digF
  have e : List.replicate (zerosF 0) (48 : UInt8) = [] := rfl
  rw [e, List.nil_append]
  split
  · refine ⟨by rw [List.length_cons]; omega, show (45 : Nat) ≠ 61 by decide, fun x hx => ?_⟩
    rcases List.mem_cons.1 hx with rfl | hx
    · exact ⟨by decide, by decide⟩
    · exact (dg_ln (d2 x hx)).1
  · refine ⟨by omega, ?_, fun x hx => (dg_ln (d2 x hx)).1⟩
    obtain ⟨c, hc, q⟩ := bat_mem (List.length_pos_iff.2 d3)
    rw [q]; exact (dg_ln (d2 c hc)).2
theorem cst_ok {c : Const} (h : OkC c) : ∃ k v n, tokF (cstS c) 0 = .ok (k, v, n, 0, 0, ((cstS c).length : Int)) ∧ k ≠ 0 ∧ isT k false = true ∧ (∀ o e, constD (termD (k, v, n, 0, o, e)) = c) ∧ bat (cstS c) 0 ≠ 61 ∧ (cstS c).length ≤ 1022 ∧ ∀ x ∈ cstS c, LnB x := by
  obtain ⟨k, i, s⟩ := c
  obtain ⟨h, hi⟩ := h
  unfold validB at h
  unfold cstS
  simp only at h hi ⊢
  by_cases h1 : k = 1
  · subst h1
    simp only [if_true, decide_eq_true_eq] at h ⊢
    obtain ⟨a, b, c⟩ := itoa_ln hi
    refine ⟨3, [], i, ?_, by decide, rfl, fun o e => ?_, b, by omega, c⟩
    · rw [itoa_sp]; exact int_tok hi
    · rw [h]; rfl
  · rw [if_neg h1] at h ⊢
    by_cases h2 : k = 2
    · subst h2
      simp only [if_true, Bool.and_eq_true, decide_eq_true_eq] at h ⊢
      have hw := name_word h.2
      obtain ⟨a, b, c, -, d⟩ := word_ln hw
      refine ⟨1, s, 0, word_tok hw, by decide, rfl, fun o e => ?_, c, by omega, d⟩
      rw [h.1]; rfl
    · rw [if_neg h2] at h ⊢
      by_cases h3 : k = 3
      · subst h3
        simp only [if_true, Bool.and_eq_true, decide_eq_true_eq] at h
        obtain ⟨a, b⟩ := quoF_ln s
        refine ⟨4, s, 0, quo_tok h.2, by decide, rfl, fun o e => ?_, show (34 : Nat) ≠ 61 by decide, by omega, b⟩
        rw [h.1]; rfl
      · rw [if_neg h3] at h; cases h
/-! ### Facts -/
def noC : Const := (0, 0, [])
def sepS (i : Nat) : List UInt8 := if i = 0 then [] else [44, 32]
def prA (l : List Const) : Nat → List UInt8
  | 0 => []
  | i + 1 => prA l i ++ sepS i ++ cstS (l.getD i noC)
def factS (f : Fact) : List UInt8 := f.1 ++ if f.2.length = 0 then [] else [40] ++ prA f.2 f.2.length ++ [41]
def nlS (i : Nat) : List UInt8 := if i = 0 then [] else [10]
def noF : Fact := ([], [])
def fctX (l : List Fact) : Nat → List UInt8
  | 0 => []
  | i + 1 => fctX l i ++ nlS i ++ factS (l.getD i noF) ++ [46]
def factsT (l : List Fact) (i : Nat) : List UInt8 := fctX l i ++ nlS i
def OkF (f : Fact) : Prop := nameB f.1 = true ∧ f.2.length ≤ 8 ∧ ∀ c ∈ f.2, OkC c
def atF (a : AtomT) : Fact := (a.1, a.2.1.map constD)
theorem g0_ok : gapF (([] : List UInt8) ++ [40]) 0 = (([] : List UInt8).length, true) := by kernel_rfl
theorem g32_ok : gapF ([32] ++ [40]) 0 = (([32] : List UInt8).length, true) := by kernel_rfl
theorem g10_ok : gapF ([10] ++ [40]) 0 = (([10] : List UInt8).length, true) := by kernel_rfl
theorem sgP_open : tokF [40] 0 = .ok (5, [], 0, 0, 0, 1) := by kernel_rfl
theorem sgP_close : tokF [41] 0 = .ok (6, [], 0, 0, 0, 1) := by kernel_rfl
theorem sgP_comma : tokF [44] 0 = .ok (7, [], 0, 0, 0, 1) := by kernel_rfl
theorem sgP_dot : tokF [46] 0 = .ok (8, [], 0, 0, 0, 1) := by kernel_rfl
theorem getC {l : List Const} (hl : ∀ c ∈ l, OkC c) {i : Nat} (hi : i < l.length) : OkC (l.getD i noC) := by
  rw [List.getD_eq_getElem?_getD, List.getElem?_eq_getElem hi]
  exact hl _ (List.getElem_mem hi)
theorem getF {l : List Fact} (hl : ∀ c ∈ l, OkF c) {i : Nat} (hi : i < l.length) : OkF (l.getD i noF) := by
  rw [List.getD_eq_getElem?_getD, List.getElem?_eq_getElem hi]
  exact hl _ (List.getElem_mem hi)
theorem take_getD {α : Type} {l : List α} {i : Nat} (hi : i < l.length) (d : α) : l.take (i + 1) = l.take i ++ [l.getD i d] := by
  rw [List.take_add_one, List.getD_eq_getElem?_getD, List.getElem?_eq_getElem hi]; rfl
section
variable {x : List UInt8} {W : List Tok}
theorem sgn_put {s : List UInt8} {c : Int} (h : Lays x W) (h1 : wdB (bat s 0) = false) (h2 : bat s 0 ≠ 61) (hs : tokF s 0 = .ok (c, [], 0, 0, 0, (s.length : Int))) (hc : c ≠ 0) : ∃ tk, Lays (x ++ s) (W ++ [tk]) ∧ tK tk = c ∧ lastB (x ++ s) = lastB s := by
  obtain ⟨a, -, b⟩ := lays_put (g := []) h g0_ok (fun q => absurd rfl q) (join_sign h1 h2) hs hc
  rw [List.append_nil] at a b
  exact ⟨_, a, rfl, b⟩
/-- A constant behind a bracket, or behind a comma and a blank. -/
theorem cst_put {g : List UInt8} {c : Const} (h : Lays x W) (hgg : gapF (g ++ [40]) 0 = (g.length, true)) (hg0 : g ≠ [] → wdB (bat g 0) = false ∧ bat g 0 ≠ 61) (hj : wdB (lastB x) = false) (hc : OkC c) :
    ∃ tk, Lays (x ++ g ++ cstS c) (W ++ [tk]) ∧ isT (tK tk) false = true ∧ constD (termD tk) = c := by
  obtain ⟨k, v, n, h1, h2, h3, h4, h5, -⟩ := cst_ok hc
  obtain ⟨a, -⟩ := lays_put h hgg hg0 (join_word hj h5) h1 h2
  exact ⟨_, a, h3, h4 _ _⟩
theorem args_lays {l : List Const} (h : Lays x W) (hl : ∀ c ∈ l, OkC c) : ∀ i, i < l.length → i < 8 → ∃ S U' A, Lays (x ++ [40] ++ prA l (i + 1)) (W ++ S :: U') ∧ tK S = 5 ∧ A.length = i + 1 ∧ A.map constD = l.take (i + 1) ∧
    ∀ bad m r, argsD bad false [] (U' ++ m :: r) = if tK m = 7 then argsD bad false A r else if tK m = 6 then .ok (A, r) else .error (refuseD m)
  | 0, hi, _ => by
    obtain ⟨S, a, b, c⟩ := sgn_put (s := [40]) h rfl (by decide) sgP_open (by decide)
    obtain ⟨tk, t1, t2, t3⟩ := cst_put (g := []) a g0_ok (fun q => absurd rfl q) (by rw [c]; rfl) (getC hl hi)
    refine ⟨S, [tk], [termD tk], ?_, b, rfl, ?_, fun bad m r => ?_⟩
    · have e1 : x ++ [40] ++ prA l (0 + 1) = x ++ [40] ++ [] ++ cstS (l.getD 0 noC) := by simp [prA, sepS]
      have e2 : W ++ S :: [tk] = W ++ [S] ++ [tk] := by simp
      rw [e1, e2]; exact t1
    · rw [take_getD hi noC, ← t3]; rfl
    · show argsD bad false [] (tk :: m :: r) = _
      rw [argsD_cons, if_neg (fun q => absurd q.1 (by decide)), if_neg (by rw [t2]; simp)]
      rfl
  | i + 1, hi, h8 => by
    obtain ⟨S, U', A, a1, a2, a3, a4, a5⟩ := args_lays h hl i (by omega) (by omega)
    obtain ⟨cm, b1, b2, b3⟩ := sgn_put (s := [44]) a1 rfl (by decide) sgP_comma (by decide)
    obtain ⟨tk, t1, t2, t3⟩ := cst_put (g := [32]) b1 g32_ok (fun _ => ⟨rfl, by decide⟩) (by rw [b3]; rfl) (getC hl hi)
    refine ⟨S, U' ++ [cm, tk], A ++ [termD tk], ?_, a2, by rw [List.length_append, a3]; rfl, ?_, fun bad m r => ?_⟩
    · have e1 : x ++ [40] ++ prA l (i + 1 + 1) = x ++ [40] ++ prA l (i + 1) ++ [44] ++ [32] ++ cstS (l.getD (i + 1) noC) := by
        rw [prA, show sepS (i + 1) = [44] ++ [32] from rfl]
        simp only [List.append_assoc]
      have e2 : W ++ S :: (U' ++ [cm, tk]) = W ++ S :: U' ++ [cm] ++ [tk] := by simp
      rw [e1, e2]; exact t1
    · rw [take_getD hi noC, List.map_append, a4, ← t3]; rfl
    · rw [List.append_assoc]
      show argsD bad false [] (U' ++ cm :: (tk :: m :: r)) = _
      rw [a5, if_pos b2, argsD_cons, if_neg (fun q => absurd q.1 (by omega)), if_neg (by rw [t2]; simp)]
theorem fact_lays {g : List UInt8} {f : Fact} (h : Lays x W) (hgg : gapF (g ++ [40]) 0 = (g.length, true)) (hg0 : g ≠ [] → wdB (bat g 0) = false ∧ bat g 0 ≠ 61) (hj : wdB (lastB x) = false) (hf : OkF f) :
    ∃ t0 U' A, Lays (x ++ g ++ factS f) (W ++ t0 :: U') ∧ tK t0 = 1 ∧ atF A = f ∧ ∀ bad c r, tK c ≠ 5 → atomD bad false (t0 :: U' ++ c :: r) = .ok (A, c :: r) := by
  obtain ⟨hn, hl, hc⟩ := hf
  have hw := name_word hn
  obtain ⟨-, -, w3, -, -⟩ := word_ln hw
  obtain ⟨a, -, -⟩ := lays_put h hgg hg0 (join_word hj w3) (word_tok hw) (by decide)
  obtain ⟨t0, ht0⟩ : ∃ t0, t0 = ((if true then 1 else 2, f.1, 0, 0, ((x ++ g).length : Int), ((x ++ g ++ f.1).length : Int)) : Tok) := ⟨_, rfl⟩
  rw [← ht0] at a
  have k0 : tK t0 = 1 := by rw [ht0]; rfl
  have kx : tX t0 = f.1 := by rw [ht0]; rfl
  by_cases h0 : f.2.length = 0
  · refine ⟨t0, [], (f.1, [], tO t0), ?_, k0, ?_, fun bad c r hc => ?_⟩
    · unfold factS
      rw [if_pos h0, List.append_nil]
      exact a
    · unfold atF
      have : f.2 = [] := List.length_eq_zero_iff.1 h0
      show (f.1, ([] : List Const)) = f
      rw [← this]
    · show atomD bad false (t0 :: c :: r) = _
      unfold atomD
      simp only
      rw [if_neg (by rw [k0]; simp), if_pos hc, kx]
  · obtain ⟨S, U', A, a1, a2, a3, a4, a5⟩ := args_lays a hc (f.2.length - 1) (by omega) (by omega)
    have hlen : f.2.length - 1 + 1 = f.2.length := by omega
    rw [hlen] at a1 a4
    rw [List.take_length] at a4
    obtain ⟨cl, b1, b2, -⟩ := sgn_put (s := [41]) a1 rfl (by decide) sgP_close (by decide)
    refine ⟨t0, S :: (U' ++ [cl]), (f.1, A, tO t0), ?_, k0, ?_, fun bad c r hc => ?_⟩
    · unfold factS
      rw [if_neg h0]
      have e1 : x ++ g ++ (f.1 ++ ([40] ++ prA f.2 f.2.length ++ [41])) = x ++ g ++ f.1 ++ [40] ++ prA f.2 f.2.length ++ [41] := by simp only [List.append_assoc]
      have e2 : W ++ t0 :: S :: (U' ++ [cl]) = W ++ [t0] ++ S :: U' ++ [cl] := by simp
      rw [e1, e2]; exact b1
    · unfold atF; rw [a4]
    · show atomD bad false (t0 :: S :: ((U' ++ [cl]) ++ c :: r)) = _
      unfold atomD
      simp only
      rw [if_neg (by rw [k0]; simp), if_neg (by rw [a2]; simp), List.append_assoc]
      show (match argsD bad false [] (U' ++ cl :: (c :: r)) with | .error e => Except.error e | .ok (a, q) => Except.ok ((tX t0, a, tO t0), q)) = _
      rw [a5, if_neg (by rw [b2]; decide), if_pos b2, kx]
end
theorem facts_lays {l : List Fact} (hl : ∀ f ∈ l, OkF f) : ∀ i, i ≤ l.length → i ≤ 4096 → ∃ U As, Lays (fctX l i) U ∧ wdB (lastB (fctX l i)) = false ∧ As.length = i ∧ As.map atF = l.take i ∧ ∀ bad r, factsD bad [] (U ++ r) = factsD bad As r
  | 0, _, _ => ⟨[], [], lays_nil, rfl, rfl, rfl, fun bad r => rfl⟩
  | i + 1, hi, h4 => by
    obtain ⟨U, As, h1, h2, h3, h5, h6⟩ := facts_lays hl i (by omega) (by omega)
    obtain ⟨hg1, hg2⟩ : gapF (nlS i ++ [40]) 0 = ((nlS i).length, true) ∧ (nlS i ≠ [] → wdB (bat (nlS i) 0) = false ∧ bat (nlS i) 0 ≠ 61) := by
      unfold nlS
      split
      · exact ⟨g0_ok, fun q => absurd rfl q⟩
      · exact ⟨g10_ok, fun _ => ⟨rfl, by decide⟩⟩
    obtain ⟨t0, U', A, u1, u2, u3, u4⟩ := fact_lays h1 hg1 hg2 h2 (getF hl hi)
    obtain ⟨d, d1, d2, d3⟩ := sgn_put (s := [46]) u1 rfl (by decide) sgP_dot (by decide)
    refine ⟨U ++ t0 :: (U' ++ [d]), As ++ [A], ?_, by show wdB (lastB (fctX l i ++ nlS i ++ factS (l.getD i noF) ++ [46])) = false; rw [d3]; rfl, by rw [List.length_append, h3]; rfl, ?_, fun bad r => ?_⟩
    · have : U ++ t0 :: (U' ++ [d]) = U ++ t0 :: U' ++ [d] := by simp
      rw [this]; exact d1
    · rw [take_getD hi noF, List.map_append, h5, ← u3]; rfl
    · have hc : factD1 bad (t0 :: (U' ++ [d] ++ r)) = .ok (A, r) := by
        have := u4 bad d r (by rw [d2]; decide)
        have e2 : t0 :: (U' ++ [d] ++ r) = t0 :: U' ++ d :: r := by simp
        rw [e2]
        unfold factD1
        rw [this]
        simp only
        rw [if_pos d2]
      rw [List.append_assoc, h6, List.cons_append]
      unfold factsD
      rw [allD_on (by rw [u2]; decide) (by omega) hc]
theorem badP {s : List UInt8} {l : List Tok} (hl : s.length ≤ 65536) (h : scanK s 0 = (l, 0, 0)) : badF s = (0, 0) ∧ (scanF s).1 = l := by
  unfold badF
  rw [scanF_is hl, h]
  exact ⟨rfl, rfl⟩
/-- What is printed of facts is read as these facts. -/
theorem facts_back {l : List Fact} (hl : ∀ f ∈ l, OkF f) (h4 : l.length ≤ 4096) (hx : (factsT l l.length).length ≤ 65536) : ∃ As, parseF (fun b l => factsD b [] l) (factsT l l.length) = .ok As ∧ As.map atF = l := by
  obtain ⟨U, As, h1, h2, h3, h5, h6⟩ := facts_lays hl l.length (Nat.le_refl _) h4
  rw [List.take_length] at h5
  have hs : scanK (factsT l l.length) 0 = (U ++ [endT (factsT l l.length).length], 0, 0) := by
    unfold factsT nlS
    split
    · exact lays_end (g := []) h1 g0_ok (fun q => absurd rfl q)
    · exact lays_end (g := [10]) h1 g10_ok (fun _ => ⟨rfl, by decide⟩)
  refine ⟨As, ?_, h5⟩
  obtain ⟨S, hS⟩ : ∃ S, S = factsT l l.length := ⟨_, rfl⟩
  rw [← hS] at hs hx ⊢
  unfold parseF
  rw [if_neg (by omega)]
  obtain ⟨e1, e2⟩ := badP hx hs
  rw [e1, e2]
  simp only
  rw [h6]
  unfold factsD
  rw [allD_end (show tK (endT S.length) = 0 from rfl)]
/-- One fact alone. -/
theorem fact_back {f : Fact} (hf : OkF f) (hx : (factS f).length ≤ 65536) : ∃ A, parseF oneD (factS f) = .ok A ∧ atF A = f := by
  obtain ⟨t0, U', A, u1, u2, u3, u4⟩ := fact_lays (g := []) lays_nil g0_ok (fun q => absurd rfl q) rfl hf
  rw [List.append_nil, List.nil_append] at u1
  refine ⟨A, ?_, u3⟩
  obtain ⟨S, hS⟩ : ∃ S, S = factS f := ⟨_, rfl⟩
  rw [← hS] at u1 hx ⊢
  unfold parseF
  rw [if_neg (by omega)]
  obtain ⟨e1, e2⟩ := badP hx u1.1
  rw [e1, e2, List.nil_append]
  have := u4 (0, 0) (endT S.length) [] (show (0 : Int) ≠ 5 by decide)
  unfold oneD
  rw [this]
  rfl
/-! ### How long; which bytes -/
theorem prA_ln {l : List Const} (hl : ∀ c ∈ l, OkC c) : ∀ i, i ≤ l.length → (prA l i).length ≤ 1024 * i ∧ ∀ x ∈ prA l i, LnB x
  | 0, _ => ⟨Nat.le_refl _, fun x hx => (by cases hx)⟩
  | i + 1, hi => by
    obtain ⟨a, b⟩ := prA_ln hl i (by omega)
    obtain ⟨k, v, n, -, -, -, -, -, c1, c2⟩ := cst_ok (getC hl hi)
    have hs : (sepS i).length ≤ 2 ∧ ∀ x ∈ sepS i, LnB x := by
      unfold sepS
      split
      · exact ⟨by decide, fun x hx => (by cases hx)⟩
      · refine ⟨by decide, fun x hx => ?_⟩
        simp only [List.mem_cons, List.not_mem_nil, or_false] at hx
        rcases hx with rfl | rfl <;> exact ⟨by decide, by decide⟩
    refine ⟨by show (prA l i ++ sepS i ++ cstS (l.getD i noC)).length ≤ _; rw [List.length_append, List.length_append]; omega, fun x hx => ?_⟩
    rcases List.mem_append.1 hx with hx | hx
    · rcases List.mem_append.1 hx with hx | hx
      · exact b x hx
      · exact hs.2 x hx
    · exact c2 x hx
theorem factS_ln {f : Fact} (hf : OkF f) : (factS f).length ≤ 8300 ∧ factS f ≠ [] ∧ ∀ x ∈ factS f, LnB x := by
  obtain ⟨hn, hl, hc⟩ := hf
  obtain ⟨a, b, -, -, d⟩ := word_ln (name_word hn)
  obtain ⟨p, q⟩ := prA_ln hc f.2.length (Nat.le_refl _)
  unfold factS
  split
  · rw [List.append_nil]; exact ⟨by omega, b, d⟩
  · refine ⟨by simp only [List.length_append, List.length_cons, List.length_nil]; omega, by simp, fun x hx => ?_⟩
    rcases List.mem_append.1 hx with hx | hx
    · exact d x hx
    · rcases List.mem_append.1 hx with hx | hx
      · rcases List.mem_append.1 hx with hx | hx
        · rw [List.mem_singleton.1 hx]; exact ⟨by decide, by decide⟩
        · exact q x hx
      · rw [List.mem_singleton.1 hx]; exact ⟨by decide, by decide⟩
theorem factsT_succ (l : List Fact) (i : Nat) : factsT l (i + 1) = factsT l i ++ factS (l.getD i noF) ++ [46, 10] := by
  unfold factsT
  rw [fctX, show nlS (i + 1) = [10] from rfl]
  simp only [List.append_assoc]
  rfl
theorem factsT_len {l : List Fact} (hl : ∀ f ∈ l, OkF f) : ∀ i, i ≤ l.length → (factsT l i).length ≤ 8302 * i
  | 0, _ => Nat.le_refl _
  | i + 1, hi => by
    have h1 := factsT_len hl i (by omega)
    have h2 := (factS_ln (getF hl hi)).1
    rw [factsT_succ, List.length_append, List.length_append]
    simp only [List.length_cons, List.length_nil]; omega
/-- A text of lines: the bytes that may stand there, each line's end behind a dot. -/
def LinesP (s : List UInt8) (n : Nat) : Prop := (∀ i c, s[i]? = some c → (c.toNat = 10 ∧ 0 < i ∧ s[i - 1]? = some 46) ∨ LnB c) ∧ s.count 10 = n ∧ (s ≠ [] → s[s.length - 1]? = some 10)
theorem count_ln {s : List UInt8} (h : ∀ x ∈ s, LnB x) : s.count 10 = 0 := by
  rw [List.count_eq_zero]
  intro q
  exact absurd (h 10 q).1 (by decide)
theorem factsT_lines {l : List Fact} (hl : ∀ f ∈ l, OkF f) : ∀ i, i ≤ l.length → LinesP (factsT l i) i
  | 0, _ => ⟨fun i c hc => (by simp [factsT, fctX, nlS] at hc), rfl, fun q => absurd rfl q⟩
  | i + 1, hi => by
    obtain ⟨h1, h2, h3⟩ := factsT_lines hl i (by omega)
    obtain ⟨-, -, f3⟩ := factS_ln (getF hl hi)
    rw [factsT_succ]
    obtain ⟨S, hS⟩ : ∃ S, S = factsT l i := ⟨_, rfl⟩
    obtain ⟨F, hF⟩ : ∃ F, F = factS (l.getD i noF) := ⟨_, rfl⟩
    rw [← hF] at f3 ⊢
    rw [← hS] at h1 h2 ⊢
    have hlen : (S ++ F ++ [46, 10]).length = S.length + F.length + 2 := by simp only [List.length_append, List.length_cons, List.length_nil]
    have hl1 : (S ++ F ++ [46, 10])[S.length + F.length]? = some 46 := by
      rw [List.getElem?_append_right (by simp)]; simp
    have hl2 : (S ++ F ++ [46, 10])[S.length + F.length + 1]? = some 10 := by
      rw [List.getElem?_append_right (by simp)]; simp
    refine ⟨fun j c hc => ?_, ?_, fun _ => by rw [hlen]; exact hl2⟩
    · by_cases q1 : j < S.length
      · have e : ∀ k, k < S.length → (S ++ F ++ [46, 10])[k]? = S[k]? := fun k hk => by rw [List.append_assoc, List.getElem?_append_left hk]
        rw [e j q1] at hc
        rcases h1 j c hc with ⟨a, b, d⟩ | a
        · exact .inl ⟨a, b, by rw [e _ (by omega)]; exact d⟩
        · exact .inr a
      · by_cases q2 : j < S.length + F.length
        · rw [List.getElem?_append_left (by rw [List.length_append]; omega), List.getElem?_append_right (by omega)] at hc
          exact .inr (f3 c (List.mem_of_getElem? hc))
        · by_cases q3 : j = S.length + F.length
          · rw [q3, hl1] at hc
            cases hc
            exact .inr ⟨by decide, by decide⟩
          · have q4 : j < S.length + F.length + 2 := by
              have := (List.getElem?_eq_some_iff.1 hc).1
              rw [hlen] at this; exact this
            obtain rfl : j = S.length + F.length + 1 := by omega
            rw [hl2] at hc
            cases hc
            exact .inl ⟨rfl, by omega, hl1⟩
    · rw [List.count_append, List.count_append, h2, count_ln f3]
      rfl
end Edict
