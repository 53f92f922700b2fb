/- What lex's byte tests, peek, run, fault, hex, escape, word compute. -/
import Derived.Test.YtlenjlidahnklaaDoorTokS
import Derived.Test.YtlenjlidahnklaaDoorTok
import Derived.Test.YtlenjlidahnklaaDoorEvC
namespace Edict
def tokE (t : Tok) : List Go.Value := [.int .i64 t.1, Go.Ev.str t.2.1, .int .i64 t.2.2.1, .int .i64 t.2.2.2.1, .int .i64 t.2.2.2.2.1, .int .i64 t.2.2.2.2.2]
def tok0 : List Go.Value := [.int .i64 0, Go.Ev.str [], .int .i64 0, .int .i64 0, .int .i64 0, .int .i64 0]
def fltE (c : Int) (o : Int) : List Go.Value := [.int .i64 c, .int .i64 0, .int .i64 o]
def resV : TR → Go.Value
  | .ok t => .tuple #[.agg (tokE t).toArray, .agg (fltE 0 0).toArray]
  | .bad c o => .tuple #[.agg tok0.toArray, .agg (fltE c o).toArray]
end Edict
namespace Go.Proofs.YtlenjlidahnklaaDoor
open Go Go.Ev Edict
theorem batf (s : List UInt8) (k : Nat) : (s.getD k 0).toNat = bat s k := rfl
theorem mlen' : maxLen = 9223372036854775807 := rfl
theorem wr8 {n : Int} (h1 : 0 ≤ n) (h2 : n ≤ 255) : IntKind.u8.wrap n = n := by
  have e : n % 256 = n := Int.emod_eq_of_lt h1 (by omega)
  unfold IntKind.wrap
  simp [IntKind.bits, IntKind.signed, e]
theorem kb {K : Value → H → Prop} {a b : Bool} {h : H} (e : b = a) (hK : K (.bool b) h) : K (.bool a) h := e ▸ hK
def C_b (f : Nat → Bool) (vs : List Value) (h : H) (K : Value → H → Prop) : Prop := ∃ c : Nat, vs = [.int .u8 c] ∧ K (.bool (f c)) h
theorem lxIsDigit_ok {vs : List Value} {h : H} {K : Value → H → Prop} {KP : List PanicEntry → H → Prop} (hC : C_b dgB vs h K) : HCX Tryd.prog 50 vs h K KP := by
  obtain ⟨c, rfl, hK⟩ := hC
  refine lxIsDigit_H (fun _ _ _ _ _ => False) (fun _ _ _ _ _ h => h.elim) _ ?_
  simp (disch := first | omega | (simp only [e_ssz, e_psz, e_hszs, List.length_cons, List.length_nil]; try omega; done)) only [↓reduceIte, go_sem, lxIsDigit_S, lxIsDigit_E]
  exact kb (by unfold dgB; apply Bool.eq_iff_iff.2; simp; omega) hK
def upB_ (c : Nat) : Bool := upB c || decide (c = 95)
theorem lxIsUpper_ok {vs : List Value} {h : H} {K : Value → H → Prop} {KP : List PanicEntry → H → Prop} (hC : C_b upB_ vs h K) : HCX Tryd.prog 60 vs h K KP := by
  obtain ⟨c, rfl, hK⟩ := hC
  refine lxIsUpper_H (fun _ _ _ _ _ => False) (fun _ _ _ _ _ h => h.elim) _ ?_
  simp (disch := first | omega | (simp only [e_ssz, e_psz, e_hszs, List.length_cons, List.length_nil]; try omega; done)) only [↓reduceIte, go_sem, lxIsUpper_S, lxIsUpper_E]
  exact kb (by unfold upB_ upB; apply Bool.eq_iff_iff.2; simp; omega) hK
theorem lxIsLower_ok {vs : List Value} {h : H} {K : Value → H → Prop} {KP : List PanicEntry → H → Prop} (hC : C_b loB vs h K) : HCX Tryd.prog 61 vs h K KP := by
  obtain ⟨c, rfl, hK⟩ := hC
  refine lxIsLower_H (fun _ _ _ _ _ => False) (fun _ _ _ _ _ h => h.elim) _ ?_
  simp (disch := first | omega | (simp only [e_ssz, e_psz, e_hszs, List.length_cons, List.length_nil]; try omega; done)) only [↓reduceIte, go_sem, lxIsLower_S, lxIsLower_E]
  exact kb (by unfold loB; apply Bool.eq_iff_iff.2; simp; omega) hK
def G_lxIsWord : Ctr := fun f vs h K _ => (f = 50 ∧ C_b dgB vs h K) ∨ (f = 60 ∧ C_b upB_ vs h K) ∨ (f = 61 ∧ C_b loB vs h K)
theorem G_lxIsWord_ok : GOk Tryd.prog G_lxIsWord := by
  rintro f vs h K KP (⟨rfl, hC⟩ | ⟨rfl, hC⟩ | ⟨rfl, hC⟩)
  · exact lxIsDigit_ok hC
  · exact lxIsUpper_ok hC
  · exact lxIsLower_ok hC
theorem lxIsWord_ok {vs : List Value} {h : H} {K : Value → H → Prop} {KP : List PanicEntry → H → Prop} (hC : C_b wdB vs h K) : HCX Tryd.prog 53 vs h K KP := by
  obtain ⟨c, rfl, hK⟩ := hC
  refine lxIsWord_H _ G_lxIsWord_ok _ ?_
  have e : wdB c = (dgB c || upB_ c || loB c) := by unfold wdB upB_; cases dgB c <;> cases upB c <;> cases loB c <;> simp
  rw [e] at hK
  cases h1 : dgB c <;> cases h2 : upB_ c <;> cases h3 : loB c <;> simp only [h1, h2, h3, Bool.or_true, Bool.or_false] at hK <;>
    (simp (disch := first | omega | (simp only [e_ssz, e_psz, e_hszs, List.length_cons, List.length_nil]; try omega; done)) only [↓reduceIte, go_sem, e_call, lxIsWord_S, lxIsWord_E, G_lxIsWord, C_b, h1, h2, h3]; exact hK)
def C_peek (vs : List Value) (h : H) (K : Value → H → Prop) : Prop := ∃ (B : Nat) (s : List UInt8) (k j : Nat), vs = [.pointer (some ⟨B, 0, none⟩), .int .i64 j] ∧ hsz h B = 2 ∧ hv h B 0 = str s ∧ hv h B 1 = .int .i64 k ∧ k ≤ s.length ∧ s.length ≤ 65536 ∧ j ≤ 3 ∧ K (.int .u8 (bat s (k + j))) h
theorem lxPeek_ok {vs : List Value} {h : H} {K : Value → H → Prop} {KP : List PanicEntry → H → Prop} (hC : C_peek vs h K) : HCX Tryd.prog 51 vs h K KP := by
  obtain ⟨B, s, k, j, rfl, hz, h0, h1, hk, hl, hj, hK⟩ := hC
  refine lxPeek_H (fun _ _ _ _ _ => False) (fun _ _ _ _ _ h => h.elim) _ _ ?_
  have e1 : (k : Int) + (j : Int) = ((k + j : Nat) : Int) := by omega
  by_cases hlt : k + j < s.length
  · simp (disch := first | omega | (simp only [e_ssz, e_psz, e_hszs, List.length_cons, List.length_nil]; try omega; done)) only [↓reduceIte, go_sem, lxPeek_S, lxPeek_E, hz, h0, h1, e1, hlt, batf]
    exact hK
  · rw [bat_end (by omega)] at hK
    simp (disch := first | omega | (simp only [e_ssz, e_psz, e_hszs, List.length_cons, List.length_nil]; try omega; done)) only [↓reduceIte, go_sem, lxPeek_S, lxPeek_E, hz, h0, h1, e1, hlt]
    exact hK
def C_run (vs : List Value) (h : H) (K : Value → H → Prop) : Prop := ∃ (B : Nat) (s : List UInt8) (k : Nat), vs = [.pointer (some ⟨B, 0, none⟩), .int .i64 k] ∧ hsz h B = 2 ∧ hv h B 0 = str s ∧ k ≤ s.length ∧ s.length ≤ 65536 ∧ K (.int .i64 (runF s k)) h
def G_lxRun : Ctr := fun f vs h K _ => (f = 53 ∧ C_b wdB vs h K)
theorem G_lxRun_ok : GOk Tryd.prog G_lxRun := by
  rintro f vs h K KP (⟨rfl, hC⟩)
  exact lxIsWord_ok hC
theorem lxRun_ok {vs : List Value} {h : H} {K : Value → H → Prop} {KP : List PanicEntry → H → Prop} (hC : C_run vs h K) : HCX Tryd.prog 58 vs h K KP := by
  obtain ⟨B, s, k, rfl, hz, h0, hk, hl, hK⟩ := hC
  refine lxRun_H _ G_lxRun_ok _ _ ?_
  simp (disch := first | omega | (simp only [e_ssz, e_psz, e_hszs, List.length_cons, List.length_nil]; try omega; done)) only [go_sem, lxRun_S, lxRun_E]
  refine wpS_loop (fun (j : Nat) σ h' => σ 0 = .pointer (some ⟨B, 0, none⟩) ∧ σ 1 = .int .i64 j ∧ h' = h ∧ j ≤ s.length ∧ runF s j = runF s k) (fun j => s.length - j) k ⟨by simp [upd], by simp [upd], rfl, by omega, rfl⟩ ?_
  rintro j σ h' ⟨e0, e1, rfl, hj, he⟩
  by_cases hlt : j < s.length
  · cases hw : wdB (bat s j) with
    | true =>
      simp (disch := first | omega | (simp only [e_ssz, e_psz, e_hszs, List.length_cons, List.length_nil]; try omega; done)) only [↓reduceIte, go_sem, e_call, lxRun_L1, e0, e1, hz, h0, hlt, batf, G_lxRun, C_b, hw]
      exact ⟨j + 1, by simp, by omega, (runF_on hlt hw).symm.trans he, by omega⟩
    | false =>
      rw [runF_stop (by rw [hw]; simp)] at he
      subst he
      simp (disch := first | omega | (simp only [e_ssz, e_psz, e_hszs, List.length_cons, List.length_nil]; try omega; done)) only [↓reduceIte, go_sem, e_call, lxRun_L1, e0, e1, hz, h0, hlt, batf, G_lxRun, C_b, hw]
      exact hK
  · rw [runF_stop (by omega)] at he
    subst he
    simp (disch := first | omega | (simp only [e_ssz, e_psz, e_hszs, List.length_cons, List.length_nil]; try omega; done)) only [↓reduceIte, go_sem, lxRun_L1, e0, e1, hz, h0, hlt, batf]
    exact hK
def C_fault (vs : List Value) (h : H) (K : Value → H → Prop) : Prop := ∃ (u : U) (p : Value) (c o : Int), vs = [p, .int .i64 c, .int .i64 o] ∧ ∀ u' h', Step S0 u h u' h' → K (.tuple #[.agg tok0.toArray, .agg (fltE c o).toArray]) h'
theorem lxFault_ok {vs : List Value} {h : H} {K : Value → H → Prop} {KP : List PanicEntry → H → Prop} (hC : C_fault vs h K) : HCX Tryd.prog 49 vs h K KP := by
  obtain ⟨u, p, c, o, rfl, hK⟩ := hC
  refine lxFault_H (fun _ _ _ _ _ => False) (fun _ _ _ _ _ h => h.elim) _ _ _ ?_
  simp (disch := first | omega | (simp only [e_ssz, e_psz, e_hszs, List.length_cons, List.length_nil]; try omega; done)) only [↓reduceIte, go_sem, lxFault_S, lxFault_E]
  exact hK _ _ (by repeat (first | exact Step.refl _ _ _ | assumption | apply Step.pushR))
theorem hexI_eq (c : Nat) (hc : c < 256) : (if dgB c then (c : Int) - 48 else if 97 ≤ c ∧ c ≤ 102 then (c : Int) - 97 + 10 else if 65 ≤ c ∧ c ≤ 70 then (c : Int) - 65 + 10 else -1) = match hexV c with | some a => (a : Int) | none => -1 := by
  unfold hexV
  cases hd : dgB c with
  | true => simp only [if_true]; unfold dgB at hd; simp at hd; rw [Int.ofNat_sub (by omega)]; rfl
  | false =>
    simp only [Bool.false_eq_true, if_false]
    split
    · simp only; omega
    · split
      · simp only; omega
      · rfl
def hexI (c : Nat) : Int := match hexV c with | some a => (a : Int) | none => -1
def C_hex (vs : List Value) (h : H) (K : Value → H → Prop) : Prop := ∃ c : Nat, vs = [.int .u8 c] ∧ c < 256 ∧ K (.int .i64 (hexI c)) h
def G_lxHex : Ctr := fun f vs h K _ => (f = 50 ∧ C_b dgB vs h K)
theorem G_lxHex_ok : GOk Tryd.prog G_lxHex := by
  rintro f vs h K KP (⟨rfl, hC⟩)
  exact lxIsDigit_ok hC
theorem lxHex_ok {vs : List Value} {h : H} {K : Value → H → Prop} {KP : List PanicEntry → H → Prop} (hC : C_hex vs h K) : HCX Tryd.prog 66 vs h K KP := by
  obtain ⟨c, rfl, hc, hK⟩ := hC
  refine lxHex_H _ G_lxHex_ok _ ?_
  rw [hexI, ← hexI_eq c hc] at hK
  cases hd : dgB c with
  | true =>
    have hd' := hd
    unfold dgB at hd'; simp at hd'
    rw [hd, if_pos rfl] at hK
    simp (disch := first | omega | (simp only [e_ssz, e_psz, e_hszs, List.length_cons, List.length_nil]; try omega; done)) only [↓reduceIte, go_sem, e_call, lxHex_S, lxHex_E, G_lxHex, C_b, hd, wr8]
    exact hK
  | false =>
    rw [hd] at hK
    simp only [Bool.false_eq_true, if_false] at hK
    by_cases h1 : 97 ≤ c ∧ c ≤ 102
    · rw [if_pos h1] at hK
      simp (disch := first | omega | (simp only [e_ssz, e_psz, e_hszs, List.length_cons, List.length_nil]; try omega; done)) only [↓reduceIte, go_sem, e_call, lxHex_S, lxHex_E, G_lxHex, C_b, hd, eq_true (show (97 : Int) ≤ (c : Int) by omega), eq_true (show (c : Int) ≤ 102 by omega), wr8]
      exact hK
    · rw [if_neg h1] at hK
      by_cases h2 : 65 ≤ c ∧ c ≤ 70
      · rw [if_pos h2] at hK
        simp (disch := first | omega | (simp only [e_ssz, e_psz, e_hszs, List.length_cons, List.length_nil]; try omega; done)) only [↓reduceIte, go_sem, e_call, lxHex_S, lxHex_E, G_lxHex, C_b, hd, eq_false (show ¬ (97 : Int) ≤ (c : Int) by omega), eq_true (show (65 : Int) ≤ (c : Int) by omega), eq_true (show (c : Int) ≤ 70 by omega), wr8]
        exact hK
      · rw [if_neg h2] at hK
        simp (disch := first | omega | (simp only [e_ssz, e_psz, e_hszs, List.length_cons, List.length_nil]; try omega; done)) only [↓reduceIte, go_sem, e_call, lxHex_S, lxHex_E, G_lxHex, C_b, hd]
        exact ⟨fun h => by omega, fun _ => ⟨fun h => by omega, fun _ => hK⟩⟩
end Go.Proofs.YtlenjlidahnklaaDoor
