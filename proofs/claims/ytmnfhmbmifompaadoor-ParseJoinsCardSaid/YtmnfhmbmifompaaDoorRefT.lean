/- The reference's bytes, escapes, words, signs. -/
import Derived.Test.YtmnfhmbmifompaaDoorLexX
namespace Go.Proofs.YtmnfhmbmifompaaDoor
open Go Go.Ev Edict
theorem rfLower_ok {vs : List Value} {h : H} {K : Value → H → Prop} {KP : List PanicEntry → H → Prop} (hC : C_b loB vs h K) : HCX Tryd.prog 123 vs h K KP := by
  obtain ⟨c, rfl, hK⟩ := hC
  refine rfLower_H (fun _ _ _ _ _ => False) (fun _ _ _ _ _ h => h.elim) _ ?_
  simp (disch := first | omega | (simp only [e_ssz, e_psz, e_hszs, List.length_cons, List.length_nil]; try omega; done)) only [↓reduceIte, go_sem, rfLower_S, rfLower_E]
  exact kb (by unfold loB; apply Bool.eq_iff_iff.2; simp; omega) hK
theorem rfUpper_ok {vs : List Value} {h : H} {K : Value → H → Prop} {KP : List PanicEntry → H → Prop} (hC : C_b upB vs h K) : HCX Tryd.prog 124 vs h K KP := by
  obtain ⟨c, rfl, hK⟩ := hC
  refine rfUpper_H (fun _ _ _ _ _ => False) (fun _ _ _ _ _ h => h.elim) _ ?_
  simp (disch := first | omega | (simp only [e_ssz, e_psz, e_hszs, List.length_cons, List.length_nil]; try omega; done)) only [↓reduceIte, go_sem, rfUpper_S, rfUpper_E]
  exact kb (by unfold upB; apply Bool.eq_iff_iff.2; simp; omega) hK
theorem rfDigit_ok {vs : List Value} {h : H} {K : Value → H → Prop} {KP : List PanicEntry → H → Prop} (hC : C_b dgB vs h K) : HCX Tryd.prog 126 vs h K KP := by
  obtain ⟨c, rfl, hK⟩ := hC
  refine rfDigit_H (fun _ _ _ _ _ => False) (fun _ _ _ _ _ h => h.elim) _ ?_
  simp (disch := first | omega | (simp only [e_ssz, e_psz, e_hszs, List.length_cons, List.length_nil]; try omega; done)) only [↓reduceIte, go_sem, rfDigit_S, rfDigit_E]
  exact kb (by unfold dgB; apply Bool.eq_iff_iff.2; simp; omega) hK
def G_rfWordByte : Ctr := fun f vs h K _ => (f = 126 ∧ C_b dgB vs h K) ∨ (f = 123 ∧ C_b loB vs h K) ∨ (f = 124 ∧ C_b upB vs h K)
theorem G_rfWordByte_ok : GOk Tryd.prog G_rfWordByte := by
  rintro f vs h K KP (⟨rfl, hC⟩ | ⟨rfl, hC⟩ | ⟨rfl, hC⟩)
  · exact rfDigit_ok hC
  · exact rfLower_ok hC
  · exact rfUpper_ok hC
theorem rfWordByte_ok {vs : List Value} {h : H} {K : Value → H → Prop} {KP : List PanicEntry → H → Prop} (hC : C_b wdB vs h K) : HCX Tryd.prog 149 vs h K KP := by
  obtain ⟨c, rfl, hK⟩ := hC
  refine rfWordByte_H _ G_rfWordByte_ok _ ?_
  have e : wdB c = (dgB c || loB c || upB c || decide ((c : Int) = 95)) := by
    have q : decide ((c : Int) = 95) = decide (c = 95) := decide_eq_decide.2 (by omega)
    unfold wdB; rw [q]; cases dgB c <;> cases upB c <;> cases loB c <;> simp
  rw [e] at hK
  cases h1 : dgB c <;> cases h2 : loB c <;> cases h3 : upB c <;> simp only [h1, h2, h3, Bool.or_true, Bool.true_or, Bool.or_false, Bool.false_or] at hK <;>
    (simp (disch := first | omega | (simp only [e_ssz, e_psz, e_hszs, List.length_cons, List.length_nil]; try omega; done)) only [↓reduceIte, go_sem, e_call, rfWordByte_S, rfWordByte_E, G_rfWordByte, C_b, h1, h2, h3]; exact hK)
def C_rrun (vs : List Value) (h : H) (K : Value → H → Prop) : Prop := ∃ (s : List UInt8) (k : Nat), vs = [str s, .int .i64 k] ∧ k ≤ s.length ∧ s.length ≤ 65536 ∧ K (.int .i64 (runF s k)) h
def G_rfRun : Ctr := fun f vs h K _ => (f = 149 ∧ C_b wdB vs h K)
theorem G_rfRun_ok : GOk Tryd.prog G_rfRun := by
  rintro f vs h K KP (⟨rfl, hC⟩)
  exact rfWordByte_ok hC
theorem rfRun_ok {vs : List Value} {h : H} {K : Value → H → Prop} {KP : List PanicEntry → H → Prop} (hC : C_rrun vs h K) : HCX Tryd.prog 139 vs h K KP := by
  obtain ⟨s, k, rfl, hk, hl, hK⟩ := hC
  refine rfRun_H _ G_rfRun_ok _ _ ?_
  simp (disch := first | omega | (simp only [e_ssz, e_psz, e_hszs, List.length_cons, List.length_nil]; try omega; done)) only [go_sem, rfRun_S, rfRun_E]
  refine wpS_loop (fun (j : Nat) σ h' => σ 0 = str s ∧ σ 1 = .int .i64 j ∧ h' = h ∧ j ≤ s.length ∧ runF s j = runF s k) (fun j => s.length - j) k ⟨by simp [upd], by simp [upd], rfl, by omega, rfl⟩ ?_
  rintro j σ h' ⟨e0, e1, rfl, hj, he⟩
  by_cases hlt : j < s.length
  · cases hw : wdB (bat s j) with
    | true =>
      simp (disch := first | omega | (simp only [e_ssz, e_psz, e_hszs, List.length_cons, List.length_nil]; try omega; done)) only [↓reduceIte, go_sem, e_call, rfRun_L1, e0, e1, hlt, batf, G_rfRun, C_b, hw]
      exact ⟨j + 1, by simp, by omega, (runF_on hlt hw).symm.trans he, by omega⟩
    | false =>
      rw [runF_stop (by rw [hw]; simp)] at he
      subst he
      simp (disch := first | omega | (simp only [e_ssz, e_psz, e_hszs, List.length_cons, List.length_nil]; try omega; done)) only [↓reduceIte, go_sem, e_call, rfRun_L1, e0, e1, hlt, batf, G_rfRun, C_b, hw]
      exact hK
  · rw [runF_stop (by omega)] at he
    subst he
    simp (disch := first | omega | (simp only [e_ssz, e_psz, e_hszs, List.length_cons, List.length_nil]; try omega; done)) only [↓reduceIte, go_sem, rfRun_L1, e0, e1, hlt]
    exact hK
def C_rfault (vs : List Value) (h : H) (K : Value → H → Prop) : Prop := ∃ (u : U) (c o : Int), vs = [.int .i64 c, .int .i64 o] ∧ ∀ u' h', Step S0 u h u' h' → K (.agg (fltE c o).toArray) h'
theorem rfFault_ok {vs : List Value} {h : H} {K : Value → H → Prop} {KP : List PanicEntry → H → Prop} (hC : C_rfault vs h K) : HCX Tryd.prog 103 vs h K KP := by
  obtain ⟨u, c, o, rfl, hK⟩ := hC
  refine rfFault_H (fun _ _ _ _ _ => False) (fun _ _ _ _ _ h => h.elim) _ _ ?_
  simp (disch := first | omega | (simp only [e_ssz, e_psz, e_hszs, List.length_cons, List.length_nil]; try omega; done)) only [↓reduceIte, go_sem, rfFault_S, rfFault_E]
  exact hK _ _ (by repeat (first | exact Step.refl _ _ _ | assumption | apply Step.pushR))
def G_rfHex : Ctr := fun f vs h K _ => (f = 126 ∧ C_b dgB vs h K)
theorem G_rfHex_ok : GOk Tryd.prog G_rfHex := by
  rintro f vs h K KP (⟨rfl, hC⟩)
  exact rfDigit_ok hC
theorem rfHex_ok {vs : List Value} {h : H} {K : Value → H → Prop} {KP : List PanicEntry → H → Prop} (hC : C_hex vs h K) : HCX Tryd.prog 150 vs h K KP := by
  obtain ⟨c, rfl, hc, hK⟩ := hC
  refine rfHex_H _ G_rfHex_ok _ ?_
  rw [hexI, ← hexI_eq c hc] at hK
  cases hd : dgB c with
  | true =>
    have hd' := hd
    unfold dgB at hd'; simp at hd'
    rw [hd, if_pos rfl] at hK
    simp (disch := first | omega | (simp only [e_ssz, e_psz, e_hszs, List.length_cons, List.length_nil]; try omega; done)) only [↓reduceIte, go_sem, e_call, rfHex_S, rfHex_E, G_rfHex, C_b, hd, wr8]
    exact hK
  | false =>
    rw [hd] at hK
    simp only [Bool.false_eq_true, if_false] at hK
    by_cases h1 : 97 ≤ c ∧ c ≤ 102
    · rw [if_pos h1] at hK
      simp (disch := first | omega | (simp only [e_ssz, e_psz, e_hszs, List.length_cons, List.length_nil]; try omega; done)) only [↓reduceIte, go_sem, e_call, rfHex_S, rfHex_E, G_rfHex, C_b, hd, eq_true (show (97 : Int) ≤ (c : Int) by omega), eq_true (show (c : Int) ≤ 102 by omega), wr8]
      exact hK
    · rw [if_neg h1] at hK
      by_cases h2 : 65 ≤ c ∧ c ≤ 70
      · rw [if_pos h2] at hK
        simp (disch := first | omega | (simp only [e_ssz, e_psz, e_hszs, List.length_cons, List.length_nil]; try omega; done)) only [↓reduceIte, go_sem, e_call, rfHex_S, rfHex_E, G_rfHex, C_b, hd, eq_false (show ¬ (97 : Int) ≤ (c : Int) by omega), eq_true (show (65 : Int) ≤ (c : Int) by omega), eq_true (show (c : Int) ≤ 70 by omega), wr8]
        exact hK
      · rw [if_neg h2] at hK
        simp (disch := first | omega | (simp only [e_ssz, e_psz, e_hszs, List.length_cons, List.length_nil]; try omega; done)) only [↓reduceIte, go_sem, e_call, rfHex_S, rfHex_E, G_rfHex, C_b, hd]
        exact ⟨fun h => by omega, fun _ => ⟨fun h => by omega, fun _ => hK⟩⟩
def C_resc (vs : List Value) (h : H) (K : Value → H → Prop) : Prop := ∃ (s : List UInt8) (k : Nat), vs = [str s, .int .i64 k] ∧ k < s.length ∧ s.length ≤ 65536 ∧ K (.tuple #[.int .u8 (escF s k).1, .int .i64 (escF s k).2]) h
def G_rfEscape : Ctr := fun f vs h K _ => (f = 150 ∧ C_hex vs h K)
theorem G_rfEscape_ok : GOk Tryd.prog G_rfEscape := by
  rintro f vs h K KP (⟨rfl, hC⟩)
  exact rfHex_ok hC
theorem rfEscape_ok {vs : List Value} {h : H} {K : Value → H → Prop} {KP : List PanicEntry → H → Prop} (hC : C_resc vs h K) : HCX Tryd.prog 141 vs h K KP := by
  obtain ⟨s, k, rfl, hk, hl, hK⟩ := hC
  refine rfEscape_H G_rfEscape G_rfEscape_ok _ _ ?_
  unfold escF at hK
  by_cases h1 : k + 1 < s.length
  case neg =>
    rw [bat_end (show s.length ≤ k + 1 by omega)] at hK
    simp at hK
    simp (disch := first | omega | (simp only [e_ssz, e_psz, e_hszs, List.length_cons, List.length_nil]; try omega; done)) only [↓reduceIte, go_sem, rfEscape_S, rfEscape_E, eq_true (show (s.length : Int) ≤ (k : Int) + 1 by omega)]
    exact hK
  have e1 : ((k : Int) + 1) = ((k + 1 : Nat) : Int) := by omega
  have e2 : ((k : Int) + 2) = ((k + 2 : Nat) : Int) := by omega
  have e3 : ((k : Int) + 3) = ((k + 3 : Nat) : Int) := by omega
  have n1 : (s.length ≤ k + 1) = False := eq_false (by omega)
  obtain ⟨c, hc⟩ : ∃ c, c = bat s (k + 1) := ⟨_, rfl⟩
  rw [← hc] at hK
  have hb : (s.getD (k + 1) 0).toNat = c := by rw [hc]; rfl
  by_cases q0 : c = 34
  · rw [if_pos q0] at hK
    subst q0
    simp (disch := first | omega | (simp only [e_ssz, e_psz, e_hszs, List.length_cons, List.length_nil]; try omega; done)) only [↓reduceIte, go_sem, rfEscape_S, rfEscape_E, e1, h1, hb, eq_false (show ¬ (s.length : Int) ≤ ((k + 1 : Nat) : Int) by omega)]
    exact hK
  rw [if_neg q0] at hK
  by_cases q1 : c = 92
  · rw [if_pos q1] at hK
    subst q1
    simp (disch := first | omega | (simp only [e_ssz, e_psz, e_hszs, List.length_cons, List.length_nil]; try omega; done)) only [↓reduceIte, go_sem, rfEscape_S, rfEscape_E, e1, h1, hb, eq_false (show ¬ (s.length : Int) ≤ ((k + 1 : Nat) : Int) by omega)]
    exact hK
  rw [if_neg q1] at hK
  by_cases q2 : c = 110
  · rw [if_pos q2] at hK
    subst q2
    simp (disch := first | omega | (simp only [e_ssz, e_psz, e_hszs, List.length_cons, List.length_nil]; try omega; done)) only [↓reduceIte, go_sem, rfEscape_S, rfEscape_E, e1, h1, hb, eq_false (show ¬ (s.length : Int) ≤ ((k + 1 : Nat) : Int) by omega)]
    exact hK
  rw [if_neg q2] at hK
  by_cases q3 : c = 116
  · rw [if_pos q3] at hK
    subst q3
    simp (disch := first | omega | (simp only [e_ssz, e_psz, e_hszs, List.length_cons, List.length_nil]; try omega; done)) only [↓reduceIte, go_sem, rfEscape_S, rfEscape_E, e1, h1, hb, eq_false (show ¬ (s.length : Int) ≤ ((k + 1 : Nat) : Int) by omega)]
    exact hK
  rw [if_neg q3] at hK
  by_cases q4 : c = 114
  · rw [if_pos q4] at hK
    subst q4
    simp (disch := first | omega | (simp only [e_ssz, e_psz, e_hszs, List.length_cons, List.length_nil]; try omega; done)) only [↓reduceIte, go_sem, rfEscape_S, rfEscape_E, e1, h1, hb, eq_false (show ¬ (s.length : Int) ≤ ((k + 1 : Nat) : Int) by omega)]
    exact hK
  rw [if_neg q4] at hK
  by_cases q6 : c = 120
  · rw [if_pos q6] at hK
    subst q6
    by_cases h3 : k + 3 < s.length
    · simp (disch := first | omega | (simp only [e_ssz, e_psz, e_hszs, List.length_cons, List.length_nil]; try omega; done)) only [↓reduceIte, go_sem, rfEscape_S, rfEscape_E, e1, e2, e3, h1, hb, h3, batf, eq_true (show k + 2 < s.length by omega), eq_false (show ¬ (s.length : Int) ≤ ((k + 1 : Nat) : Int) by omega)]
      refine effS_call ⟨rfl, bat s (k + 2), rfl, bat_lt _ _, ⟨by simp (disch := first | omega | (simp only [e_ssz, e_psz, e_hszs, List.length_cons, List.length_nil]; try omega; done)) only [go_sem], ?_⟩⟩
      unfold hexI
      cases ha : hexV (bat s (k + 2)) with
      | none =>
        rw [ha] at hK
        simp only at hK
        simp (disch := first | omega | (simp only [e_ssz, e_psz, e_hszs, List.length_cons, List.length_nil]; try omega; done)) only [↓reduceIte, go_sem, e3, h3]
        exact hK
      | some a =>
        simp (disch := first | omega | (simp only [e_ssz, e_psz, e_hszs, List.length_cons, List.length_nil]; try omega; done)) only [↓reduceIte, go_sem, e3, h3, batf]
        refine effS_call ⟨rfl, bat s (k + 3), rfl, bat_lt _ _, ⟨by simp (disch := first | omega | (simp only [e_ssz, e_psz, e_hszs, List.length_cons, List.length_nil]; try omega; done)) only [go_sem], ?_⟩⟩
        unfold hexI
        cases hb : hexV (bat s (k + 3)) with
        | none =>
          rw [ha, hb] at hK
          simp only at hK
          simp (disch := first | omega | (simp only [e_ssz, e_psz, e_hszs, List.length_cons, List.length_nil]; try omega; done)) only [↓reduceIte, go_sem, e3, h3]
          exact hK
        | some b =>
          rw [ha, hb] at hK
          simp only at hK
          have ha' := hexV_lt ha; have hb' := hexV_lt hb
          simp (disch := first | omega | (simp only [e_ssz, e_psz, e_hszs, List.length_cons, List.length_nil]; try omega; done)) only [↓reduceIte, go_sem, e2, e3, h3, batf, eq_true (show k + 2 < s.length by omega)]
          refine effS_call ⟨rfl, bat s (k + 2), rfl, bat_lt _ _, ⟨by simp (disch := first | omega | (simp only [e_ssz, e_psz, e_hszs, List.length_cons, List.length_nil]; try omega; done)) only [go_sem], ?_⟩⟩
          unfold hexI
          rw [ha]
          simp (disch := first | omega | (simp only [e_ssz, e_psz, e_hszs, List.length_cons, List.length_nil]; try omega; done)) only [↓reduceIte, go_sem, e3]
          refine effS_call ⟨rfl, bat s (k + 3), rfl, bat_lt _ _, ⟨by simp (disch := first | omega | (simp only [e_ssz, e_psz, e_hszs, List.length_cons, List.length_nil]; try omega; done)) only [go_sem], ?_⟩⟩
          unfold hexI
          rw [hb]
          have ee : (16 * (a : Int) + (b : Int)) = ((a * 16 + b : Nat) : Int) := by omega
          simp (disch := first | omega | (simp only [e_ssz, e_psz, e_hszs, List.length_cons, List.length_nil]; try omega; done)) only [↓reduceIte, go_sem, ee, wr8]
          exact hK
    · rw [bat_end (show s.length ≤ k + 3 by omega)] at hK
      have hh : hexV 0 = none := rfl
      rw [hh] at hK
      have hK : K (.tuple #[.int .u8 0, .int .i64 0]) h := by revert hK; cases hexV (bat s (k + 2)) <;> exact id
      simp (disch := first | omega | (simp only [e_ssz, e_psz, e_hszs, List.length_cons, List.length_nil]; try omega; done)) only [↓reduceIte, go_sem, rfEscape_S, rfEscape_E, e1, e3, h1, hb, eq_false h3, eq_false (show ¬ (s.length : Int) ≤ ((k + 1 : Nat) : Int) by omega)]
      exact hK
  · rw [if_neg q6] at hK
    simp (disch := first | omega | (simp only [e_ssz, e_psz, e_hszs, List.length_cons, List.length_nil]; try omega; done)) only [↓reduceIte, go_sem, rfEscape_S, rfEscape_E, e1, h1, hb, eq_false (show ¬ (s.length : Int) ≤ ((k + 1 : Nat) : Int) by omega), eq_false (show ¬ (c : Int) = 34 by omega), eq_false (show ¬ (c : Int) = 92 by omega), eq_false (show ¬ (c : Int) = 110 by omega), eq_false (show ¬ (c : Int) = 116 by omega), eq_false (show ¬ (c : Int) = 114 by omega), eq_false (show ¬ (c : Int) = 120 by omega)]
    exact hK
def C_rtok (F : List UInt8 → Nat → TR) (pre : List UInt8 → Nat → Prop) (vs : List Value) (h : H) (K : Value → H → Prop) : Prop := ∃ (u : U) (s : List UInt8) (k : Nat), vs = [str s, .int .i64 k] ∧ k ≤ s.length ∧ s.length ≤ 65536 ∧ pre s k ∧ ∀ u' h', Step S0 u h u' h' → K (resV (F s k)) h'
def G_rfWord : Ctr := fun f vs h K _ => (f = 139 ∧ C_rrun vs h K) ∨ (f = 103 ∧ C_rfault vs h K) ∨ (f = 123 ∧ C_b loB vs h K)
theorem G_rfWord_ok : GOk Tryd.prog G_rfWord := by
  rintro f vs h K KP (⟨rfl, hC⟩ | ⟨rfl, hC⟩ | ⟨rfl, hC⟩)
  · exact rfRun_ok hC
  · exact rfFault_ok hC
  · exact rfLower_ok hC
theorem rfWord_ok {vs : List Value} {h : H} {K : Value → H → Prop} {KP : List PanicEntry → H → Prop} (hC : C_rtok wordF (fun s k => k < s.length ∧ wdB (bat s k) = true) vs h K) : HCX Tryd.prog 125 vs h K KP := by
  obtain ⟨u, s, k, rfl, hk, hl, ⟨hlt, hw⟩, hK⟩ := hC
  have hr1 := run_word hlt hw
  have hr2 := runF_le s k hk
  refine rfWord_H G_rfWord G_rfWord_ok _ _ ?_
  have sp : Step S0 u h _ _ := Step.push0 S0 u h tok0.toArray 75
  have T0 : Blk (ub u h.size 0) (h.push (.cells tok0.toArray 75)) h.size tok0 := Blk.new tok0 _
  have sp1 := sp.pushR (c := (fltE 0 0).toArray) (t := 27)
  have T1 := T0.pushR (c := (fltE 0 0).toArray) (t := 27)
  have F1 := Blk.new (u := ub u h.size 0) (h := h.push (.cells tok0.toArray 75)) (fltE 0 0) 27
  simp only [e_psz] at sp1 T1 F1
  simp (disch := first | omega | (simp only [e_ssz, e_psz, e_hszs, List.length_cons, List.length_nil]; try omega; done)) only [↓reduceIte, go_sem, rfWord_S, rfWord_E]
  refine effS_call (.inl ⟨rfl, s, k, rfl, hk, hl, ⟨by simp (disch := first | omega | (simp only [e_ssz, e_psz, e_hszs, List.length_cons, List.length_nil]; try omega; done)) only [go_sem], ?_⟩⟩)
  obtain ⟨e, he⟩ : ∃ e, e = runF s k := ⟨_, rfl⟩
  rw [← he] at hr1 hr2 ⊢
  by_cases h64 : 64 < e - k
  · have hF : wordF s k = .bad 14 k := by unfold wordF; rw [if_pos (by rw [← he]; exact h64)]
    rw [hF] at hK
    have sp2 := sp1.pushR (c := #[.int .i64 2, str ((s.take e).drop k), .int .i64 0, .int .i64 0, .int .i64 k, .int .i64 e]) (t := 75)
    have T2 := T1.pushR (c := #[.int .i64 2, str ((s.take e).drop k), .int .i64 0, .int .i64 0, .int .i64 k, .int .i64 e]) (t := 75)
    have F2 := F1.pushR (c := #[.int .i64 2, str ((s.take e).drop k), .int .i64 0, .int .i64 0, .int .i64 k, .int .i64 e]) (t := 75)
    simp only [e_psz] at sp2 T2 F2
    simp (disch := first | omega | (simp only [e_ssz, e_psz, e_hszs, List.length_cons, List.length_nil]; try omega; done)) only [↓reduceIte, go_sem, eq_true (show (64 : Int) < (e : Int) - (k : Int) by omega), eq_true hr2, eq_true (Nat.le_of_lt hr1)]
    refine effS_call (.inr (.inl ⟨rfl, (ub (ub (ub u h.size 0) (h.size + 1) 0) (h.size + 1 + 1) 0), 14, k, rfl, fun u4 h4 s4 => ⟨by simp (disch := first | omega | (simp only [e_ssz, e_psz, e_hszs, List.length_cons, List.length_nil]; try omega; done)) only [go_sem], ?_⟩⟩))
    have T4 := T2.step0 s4
    have F4 := F2.step0 s4
    obtain ⟨r1, r2, r3, -⟩ := res2 (la := tok0) (lb := fltE 14 k) (sp2.trans0 s4) T4 F4 (by omega) (by omega) (by omega) rfl rfl
    have T41 := T4.1
    have F41 := F4.1
    simp only [tok0, fltE] at r1 r2 r3
    simp (disch := first | omega | (simp only [e_ssz, e_psz, e_hszs, List.length_cons, List.length_nil]; try omega; done)) only [↓reduceIte, go_sem, tok0, fltE, T4.2.1, T4.2.2.1, F4.2.1, F4.2.2.1, hsets_hsz, hsets_hfr, r2.at, r3.at, r2.2.1, r3.2.1]
    exact hK _ _ r1
  · have hsub : (s.take e).drop k = sub s k e := rfl
    simp (disch := first | omega | (simp only [e_ssz, e_psz, e_hszs, List.length_cons, List.length_nil]; try omega; done)) only [↓reduceIte, go_sem, eq_false (show ¬ (64 : Int) < (e : Int) - (k : Int) by omega), eq_true hr2, eq_true (Nat.le_of_lt hr1), eq_true hlt, batf]
    refine effS_call (.inr (.inr ⟨rfl, bat s k, rfl, ⟨by simp (disch := first | omega | (simp only [e_ssz, e_psz, e_hszs, List.length_cons, List.length_nil]; try omega; done)) only [go_sem], ?_⟩⟩))
    by_cases hnot : sub s k e = [110, 111, 116]
    · have hF : wordF s k = .ok (10, [], 0, 0, k, e) := by unfold wordF; rw [← he, if_neg h64, if_pos hnot]
      rw [hF] at hK
      unfold sub at hnot
      cases hlo : loB (bat s k) with
      | true =>
        simp (disch := first | omega | (simp only [e_ssz, e_psz, e_hszs, List.length_cons, List.length_nil]; try omega; done)) only [↓reduceIte, go_sem, eq_true hnot]
        exact hK _ _ (by repeat (first | exact Step.refl _ _ _ | assumption | apply Step.pushR))
      | false =>
        simp (disch := first | omega | (simp only [e_ssz, e_psz, e_hszs, List.length_cons, List.length_nil]; try omega; done)) only [↓reduceIte, go_sem, eq_true hnot]
        exact hK _ _ (by repeat (first | exact Step.refl _ _ _ | assumption | apply Step.pushR))
    · cases hlo : loB (bat s k) with
      | true =>
        have hF : wordF s k = .ok (1, sub s k e, 0, 0, k, e) := by unfold wordF; rw [← he, if_neg h64, if_neg hnot, if_pos hlo]
        rw [hF] at hK
        unfold sub at hnot hK
        simp (disch := first | omega | (simp only [e_ssz, e_psz, e_hszs, List.length_cons, List.length_nil]; try omega; done)) only [↓reduceIte, go_sem, eq_false hnot]
        exact hK _ _ (by repeat (first | exact Step.refl _ _ _ | assumption | apply Step.pushR))
      | false =>
        have hF : wordF s k = .ok (2, sub s k e, 0, 0, k, e) := by unfold wordF; rw [← he, if_neg h64, if_neg hnot, hlo]; rfl
        rw [hF] at hK
        unfold sub at hnot hK
        simp (disch := first | omega | (simp only [e_ssz, e_psz, e_hszs, List.length_cons, List.length_nil]; try omega; done)) only [↓reduceIte, go_sem, eq_false hnot]
        exact hK _ _ (by repeat (first | exact Step.refl _ _ _ | assumption | apply Step.pushR))
def G_rfSign : Ctr := fun f vs h K _ => (f = 120 ∧ C_rfTwo vs h K) ∨ (f = 103 ∧ C_rfault vs h K)
theorem G_rfSign_ok : GOk Tryd.prog G_rfSign := by
  rintro f vs h K KP (⟨rfl, hC⟩ | ⟨rfl, hC⟩)
  · exact rfTwo_ok hC
  · exact rfFault_ok hC
theorem rfSign_ok {vs : List Value} {h : H} {K : Value → H → Prop} {KP : List PanicEntry → H → Prop} (hC : C_rtok signF (fun s k => k < s.length) vs h K) : HCX Tryd.prog 129 vs h K KP := by
  obtain ⟨u, s, k, rfl, hk, hl, hlt, hK⟩ := hC
  refine rfSign_H G_rfSign G_rfSign_ok _ _ ?_
  have sp : Step S0 u h _ _ := Step.push0 S0 u h tok0.toArray 75
  have T0 : Blk (ub u h.size 0) (h.push (.cells tok0.toArray 75)) h.size tok0 := Blk.new tok0 _
  have sp1 := sp.pushR (c := (fltE 0 0).toArray) (t := 27)
  have T1 := T0.pushR (c := (fltE 0 0).toArray) (t := 27)
  have F1 := Blk.new (u := ub u h.size 0) (h := h.push (.cells tok0.toArray 75)) (fltE 0 0) 27
  simp only [e_psz] at sp1 T1 F1
  simp (disch := first | omega | (simp only [e_ssz, e_psz, e_hszs, List.length_cons, List.length_nil]; try omega; done)) only [↓reduceIte, go_sem, rfSign_S, rfSign_E]
  refine effS_call (.inl ⟨rfl, s, k, rfl, by omega, by omega, hl, ⟨by simp (disch := first | omega | (simp only [e_ssz, e_psz, e_hszs, List.length_cons, List.length_nil]; try omega; done)) only [go_sem], ?_⟩⟩)
  rw [Int.toNat_natCast]
  obtain ⟨w, hw⟩ : ∃ w, w = twoL s k := ⟨_, rfl⟩
  have ha : ∀ a b : UInt8, (w = [a, b]) = (pr s k a.toNat b.toNat = true) := fun a b => by rw [hw]; exact twoP s k a b
  rw [← hw]
  unfold signF sgn at hK
  have ek : ((k : Int) + 2) = ((k + 2 : Nat) : Int) := by omega
  have ek1 : ((k : Int) + 1) = ((k + 1 : Nat) : Int) := by omega
  have hc : (s.getD k 0).toNat = bat s k := rfl
  obtain ⟨c, hc'⟩ : ∃ c, c = bat s k := ⟨_, rfl⟩
  rw [← hc'] at hK hc
  clear hc'
  by_cases q0 : w = [58, 45]
  · rw [if_pos (show pr s k 58 45 = true from (ha 58 45).mp q0)] at hK
    simp (disch := first | omega | (simp only [e_ssz, e_psz, e_hszs, List.length_cons, List.length_nil]; try omega; done)) only [↓reduceIte, go_sem, ek, eq_true q0]
    exact hK _ _ (by repeat (first | exact Step.refl _ _ _ | assumption | apply Step.pushR))
  rw [if_neg (fun (h : pr s k 58 45 = true) => q0 ((ha 58 45).mpr h))] at hK
  by_cases q1 : w = [33, 61]
  · rw [if_pos (show pr s k 33 61 = true from (ha 33 61).mp q1)] at hK
    simp (disch := first | omega | (simp only [e_ssz, e_psz, e_hszs, List.length_cons, List.length_nil]; try omega; done)) only [↓reduceIte, go_sem, ek, eq_false q0, eq_true q1]
    exact hK _ _ (by repeat (first | exact Step.refl _ _ _ | assumption | apply Step.pushR))
  rw [if_neg (fun (h : pr s k 33 61 = true) => q1 ((ha 33 61).mpr h))] at hK
  by_cases q2 : w = [60, 61]
  · rw [if_pos (show pr s k 60 61 = true from (ha 60 61).mp q2)] at hK
    simp (disch := first | omega | (simp only [e_ssz, e_psz, e_hszs, List.length_cons, List.length_nil]; try omega; done)) only [↓reduceIte, go_sem, ek, eq_false q0, eq_false q1, eq_true q2]
    exact hK _ _ (by repeat (first | exact Step.refl _ _ _ | assumption | apply Step.pushR))
  rw [if_neg (fun (h : pr s k 60 61 = true) => q2 ((ha 60 61).mpr h))] at hK
  by_cases q3 : w = [62, 61]
  · rw [if_pos (show pr s k 62 61 = true from (ha 62 61).mp q3)] at hK
    simp (disch := first | omega | (simp only [e_ssz, e_psz, e_hszs, List.length_cons, List.length_nil]; try omega; done)) only [↓reduceIte, go_sem, ek, eq_false q0, eq_false q1, eq_false q2, eq_true q3]
    exact hK _ _ (by repeat (first | exact Step.refl _ _ _ | assumption | apply Step.pushR))
  rw [if_neg (fun (h : pr s k 62 61 = true) => q3 ((ha 62 61).mpr h))] at hK
  by_cases p0 : c = 60
  · rw [if_pos p0] at hK
    subst p0
    simp (disch := first | omega | (simp only [e_ssz, e_psz, e_hszs, List.length_cons, List.length_nil]; try omega; done)) only [↓reduceIte, go_sem, ek, ek1, hc, eq_true hlt, eq_false q0, eq_false q1, eq_false q2, eq_false q3]
    exact hK _ _ (by repeat (first | exact Step.refl _ _ _ | assumption | apply Step.pushR))
  rw [if_neg p0] at hK
  by_cases p1 : c = 62
  · rw [if_pos p1] at hK
    subst p1
    simp (disch := first | omega | (simp only [e_ssz, e_psz, e_hszs, List.length_cons, List.length_nil]; try omega; done)) only [↓reduceIte, go_sem, ek, ek1, hc, eq_true hlt, eq_false q0, eq_false q1, eq_false q2, eq_false q3]
    exact hK _ _ (by repeat (first | exact Step.refl _ _ _ | assumption | apply Step.pushR))
  rw [if_neg p1] at hK
  by_cases p2 : c = 61
  · rw [if_pos p2] at hK
    subst p2
    simp (disch := first | omega | (simp only [e_ssz, e_psz, e_hszs, List.length_cons, List.length_nil]; try omega; done)) only [↓reduceIte, go_sem, ek, ek1, hc, eq_true hlt, eq_false q0, eq_false q1, eq_false q2, eq_false q3]
    exact hK _ _ (by repeat (first | exact Step.refl _ _ _ | assumption | apply Step.pushR))
  rw [if_neg p2] at hK
  by_cases p3 : c = 40
  · rw [if_pos p3] at hK
    subst p3
    simp (disch := first | omega | (simp only [e_ssz, e_psz, e_hszs, List.length_cons, List.length_nil]; try omega; done)) only [↓reduceIte, go_sem, ek, ek1, hc, eq_true hlt, eq_false q0, eq_false q1, eq_false q2, eq_false q3]
    exact hK _ _ (by repeat (first | exact Step.refl _ _ _ | assumption | apply Step.pushR))
  rw [if_neg p3] at hK
  by_cases p4 : c = 41
  · rw [if_pos p4] at hK
    subst p4
    simp (disch := first | omega | (simp only [e_ssz, e_psz, e_hszs, List.length_cons, List.length_nil]; try omega; done)) only [↓reduceIte, go_sem, ek, ek1, hc, eq_true hlt, eq_false q0, eq_false q1, eq_false q2, eq_false q3]
    exact hK _ _ (by repeat (first | exact Step.refl _ _ _ | assumption | apply Step.pushR))
  rw [if_neg p4] at hK
  by_cases p5 : c = 44
  · rw [if_pos p5] at hK
    subst p5
    simp (disch := first | omega | (simp only [e_ssz, e_psz, e_hszs, List.length_cons, List.length_nil]; try omega; done)) only [↓reduceIte, go_sem, ek, ek1, hc, eq_true hlt, eq_false q0, eq_false q1, eq_false q2, eq_false q3]
    exact hK _ _ (by repeat (first | exact Step.refl _ _ _ | assumption | apply Step.pushR))
  rw [if_neg p5] at hK
  by_cases p6 : c = 46
  · rw [if_pos p6] at hK
    subst p6
    simp (disch := first | omega | (simp only [e_ssz, e_psz, e_hszs, List.length_cons, List.length_nil]; try omega; done)) only [↓reduceIte, go_sem, ek, ek1, hc, eq_true hlt, eq_false q0, eq_false q1, eq_false q2, eq_false q3]
    exact hK _ _ (by repeat (first | exact Step.refl _ _ _ | assumption | apply Step.pushR))
  rw [if_neg p6] at hK
  have sp2 := sp1.pushR (c := #[.int .i64 11, str [], .int .i64 0, .int .i64 0, .int .i64 k, .int .i64 ((k + 1 : Nat) : Int)]) (t := 75)
  have T2 := T1.pushR (c := #[.int .i64 11, str [], .int .i64 0, .int .i64 0, .int .i64 k, .int .i64 ((k + 1 : Nat) : Int)]) (t := 75)
  have F2 := F1.pushR (c := #[.int .i64 11, str [], .int .i64 0, .int .i64 0, .int .i64 k, .int .i64 ((k + 1 : Nat) : Int)]) (t := 75)
  simp only [e_psz] at sp2 T2 F2
  simp (disch := first | omega | (simp only [e_ssz, e_psz, e_hszs, List.length_cons, List.length_nil]; try omega; done)) only [↓reduceIte, go_sem, ek, ek1, hc, eq_true hlt, eq_false q0, eq_false q1, eq_false q2, eq_false q3, eq_false (show ¬ (c : Int) = 60 by omega), eq_false (show ¬ (c : Int) = 62 by omega), eq_false (show ¬ (c : Int) = 61 by omega), eq_false (show ¬ (c : Int) = 40 by omega), eq_false (show ¬ (c : Int) = 41 by omega), eq_false (show ¬ (c : Int) = 44 by omega), eq_false (show ¬ (c : Int) = 46 by omega)]
  refine effS_call (.inr ⟨rfl, (ub (ub (ub u h.size 0) (h.size + 1) 0) (h.size + 1 + 1) 0), 10, k, rfl, fun u4 h4 s4 => ⟨by simp (disch := first | omega | (simp only [e_ssz, e_psz, e_hszs, List.length_cons, List.length_nil]; try omega; done)) only [go_sem], ?_⟩⟩)
  have T4 := T2.step0 s4
  have F4 := F2.step0 s4
  obtain ⟨r1, r2, r3, -⟩ := res2 (la := tok0) (lb := fltE 10 k) (sp2.trans0 s4) T4 F4 (by omega) (by omega) (by omega) rfl rfl
  have T41 := T4.1
  have F41 := F4.1
  simp only [tok0, fltE] at r1 r2 r3
  simp (disch := first | omega | (simp only [e_ssz, e_psz, e_hszs, List.length_cons, List.length_nil]; try omega; done)) only [↓reduceIte, go_sem, tok0, fltE, T4.2.1, T4.2.2.1, F4.2.1, F4.2.2.1, hsets_hsz, hsets_hfr, r2.at, r3.at, r2.2.1, r3.2.1]
  exact hK _ _ r1
end Go.Proofs.YtmnfhmbmifompaaDoor
