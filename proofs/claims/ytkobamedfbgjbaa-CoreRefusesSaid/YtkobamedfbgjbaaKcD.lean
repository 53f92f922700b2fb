/- core: number of constants and of rows, constant, begin. -/
import Derived.Test.YtkobamedfbgjbaaKrW
namespace Go.Ev
open Go Edict
def ksC : List Kc := [.int .i64, .int .i64, .str]
def encC (c : Const) : Value := .agg #[.int .i64 c.1, .int .i64 c.2.1, str c.2.2]
theorem encC_inj (a b : Const) (h : encC a = encC b) : a = b := by
  obtain ⟨a1, a2, a3⟩ := a
  obtain ⟨b1, b2, b3⟩ := b
  simp only [encC, Value.agg.injEq, Array.mk.injEq, List.cons.injEq, Value.int.injEq, true_and, and_true] at h
  obtain ⟨h1, h2, h3⟩ := h
  rw [h1, h2, str_inj' h3]
theorem wf_i64 {n : Int} (h : -9223372036854775808 ≤ n ∧ n ≤ 9223372036854775807) : (Lit.int .i64 n).wf = true := by
  have e1 : IntKind.i64.min = -9223372036854775808 := by decide
  have e2 : IntKind.i64.max = 9223372036854775807 := by decide
  simp [Lit.wf, e1, e2, h.1, h.2]
theorem keyC {c : Const} (h : Rep.wf c) : keyG ksC (encC c) = true := by
  obtain ⟨h1, h2, h3⟩ := h
  have e1 := wf_i64 h1
  have e2 := wf_i64 h2
  have e3 : c.2.2.length ≤ maxLen := h3
  simp only [keyG, ksC, encC, kwsOk, kwOk, e1, e2, str, decide_true, Bool.and_true, Bool.true_and, decide_eq_true_eq]
  simpa [ByteArray.size] using e3
def ksK : List Kc := List.replicate 9 (.int .i64)
def encK (l : List Int) : Value := .agg (l.map (Value.int .i64)).toArray
theorem encK_inj (a b : List Int) (h : encK a = encK b) : a = b := by
  simp only [encK, Value.agg.injEq, Array.mk.injEq] at h
  exact List.map_inj_right (fun x y e => by simpa using e) |>.1 h
end Go.Ev
namespace Go.Proofs.Ytkobamedfbgjbaa
open Go Go.Ev Edict
theorem crConst_ok {vs : List Value} {h : H} {K : Value → H → Prop} {KP : List PanicEntry → H → Prop} (hC : C_constant vs h K) : HCX Try.prog 55 vs h K KP := by
  obtain ⟨u, t, rfl, hK⟩ := hC
  refine crConst_H (fun _ _ _ _ _ => False) (fun _ _ _ _ _ h => h.elim) _ ?_
  simp (disch := first | omega | (simp only [e_ssz, e_psz, e_hszs, List.length_cons, List.length_nil]; try omega; done)) only [↓reduceIte, go_sem, crConst_S, crConst_E, Term.enc]
  exact hK _ _ (by repeat (first | exact Step.refl _ _ _ | assumption | apply Step.pushR))
def C_numC (vs : List Value) (h : H) (K : Value → H → Prop) : Prop := ∃ (u : U) (b : Nat) (l : List Const) (c : Const), vs = [.map (some b), encC c] ∧ MapG ksC encC h b (posL l) l.length ∧ l.length ≤ 4611686018427387904 ∧ Rep.wf c ∧
  (c ∈ l → ∀ u' h', Step S0 u h u' h' → K (.tuple #[.int .i64 (idL l c), .bool false]) h') ∧ (c ∉ l → ∀ u' h', Step (fun i => i = b) u h u' h' → MapG ksC encC h' b (posL (l ++ [c])) (l.length + 1) → K (.tuple #[.int .i64 l.length, .bool true]) h')
theorem crNumC_ok {vs : List Value} {h : H} {K : Value → H → Prop} {KP : List PanicEntry → H → Prop} (hC : C_numC vs h K) : HCX Try.prog 56 vs h K KP := by
  obtain ⟨u, b, l, c, rfl, hm, hn, hw, h1, h2⟩ := hC
  refine crNumC_H (fun _ _ _ _ _ => False) (fun _ _ _ _ _ h => h.elim) _ _ ?_
  have sp : Step S0 u h _ _ := Step.push0 S0 u h #[.int .i64 c.1, .int .i64 c.2.1, str c.2.2] 131
  have X : Blk (ub u h.size 0) (h.push (.cells #[.int .i64 c.1, .int .i64 c.2.1, str c.2.2] 131)) h.size [.int .i64 c.1, .int .i64 c.2.1, str c.2.2] := (Blk.mk (by simp only [e_psz]; omega) (by simp (disch := first | omega | (simp only [e_ssz, e_psz, e_hszs, List.length_cons, List.length_nil]; try omega; done)) only [go_sem]) (by simp (disch := first | omega | (simp only [e_ssz, e_psz, e_hszs, List.length_cons, List.length_nil]; try omega; done)) only [go_sem]) (by repeat (first | (refine ub_at ?_; simp only []; done) | apply ub_zero)) (by simp (disch := first | omega | (simp only [e_ssz, e_psz, e_hszs, List.length_cons, List.length_nil]; try omega; done)) only [go_sem]))
  have hmp := hm.step sp (fun h => h)
  have hbl := hm.lt
  simp (disch := first | omega | (simp only [e_ssz, e_psz, e_hszs, List.length_cons, List.length_nil]; try omega; done)) only [↓reduceIte, go_sem, crNumC_S, crNumC_E, encC]
  refine effS_lookg (enc := encC) (s := c) encC_inj (keyC hw) hmp ⟨by simp (disch := first | omega | (simp only [e_ssz, e_psz, e_hszs, List.length_cons, List.length_nil]; try omega; done)) only [go_sem], ?_⟩
  by_cases hc : c ∈ l
  · obtain ⟨n, e⟩ : ∃ n, posL l c = some n := Option.isSome_iff_exists.1 (posL_some.2 hc)
    have e2 : idL l c = n := by unfold idL; rw [e]; rfl
    rw [e]
    simp only [lookV, if_true, Option.isSome_some, Option.getD_some]
    simp (disch := first | omega | (simp only [e_ssz, e_psz, e_hszs, List.length_cons, List.length_nil]; try omega; done)) only [↓reduceIte, go_sem]
    rw [← e2]
    exact h1 hc _ _ sp
  · have e : posL l c = none := by unfold posL; rw [if_neg hc]
    rw [e]
    simp only [lookV, if_true, Option.isSome_none, Option.getD_none]
    simp (disch := first | omega | (simp only [e_ssz, e_psz, e_hszs, List.length_cons, List.length_nil]; try omega; done)) only [↓reduceIte, go_sem]
    refine effS_lenmg hmp ⟨by simp (disch := first | omega | (simp only [e_ssz, e_psz, e_hszs, List.length_cons, List.length_nil]; try omega; done)) only [go_sem], ?_⟩
    simp (disch := first | omega | (simp only [e_ssz, e_psz, e_hszs, List.length_cons, List.length_nil]; try omega; done)) only [↓reduceIte, go_sem]
    refine effS_mputg (enc := encC) (s := c) (ub u h.size 0) encC_inj (keyC hw) hmp fun h' st hm' => ⟨by simp (disch := first | omega | (simp only [e_ssz, e_psz, e_hszs, List.length_cons, List.length_nil]; try omega; done)) only [go_sem], ?_⟩
    rw [e] at hm'
    simp only [Option.isSome_none, Bool.false_eq_true, if_false] at hm'
    have em : putg (posL l) c (l.length : Int) = posL (l ++ [c]) := by
      funext s; rw [posL_snoc hc]; rfl
    rw [em] at hm'
    simp (disch := first | omega | (simp only [e_ssz, e_psz, e_hszs, List.length_cons, List.length_nil]; try omega; done)) only [↓reduceIte, go_sem]
    refine effS_lenmg hm' ⟨by simp (disch := first | omega | (simp only [e_ssz, e_psz, e_hszs, List.length_cons, List.length_nil]; try omega; done)) only [go_sem], ?_⟩
    simp (disch := first | omega | (simp only [e_ssz, e_psz, e_hszs, List.length_cons, List.length_nil]; try omega; done)) only [↓reduceIte, go_sem]
    have e3 : ((l.length + 1 : Nat) : Int) - 1 = l.length := by omega
    rw [e3]
    exact h2 hc _ h' ((sp.mono (S' := fun i => i = b) (fun _ _ h => h.elim)).trans st (fun _ _ h => h)) hm'
theorem keyK {l : List Int} (h : l.length = 9) (hw : ∀ x ∈ l, Rep.wf x) : keyG ksK (encK l) = true := by
  match l, h with
  | [a0, a1, a2, a3, a4, a5, a6, a7, a8], _ =>
    have e := fun x hx => wf_i64 (hw x hx)
    simp only [List.mem_cons, List.not_mem_nil, or_false, forall_eq_or_imp, forall_eq] at e
    obtain ⟨e0, e1, e2, e3, e4, e5, e6, e7, e8⟩ := e
    simp [keyG, ksK, encK, kwsOk, kwOk, List.replicate, e0, e1, e2, e3, e4, e5, e6, e7, e8]
def C_numK (vs : List Value) (h : H) (K : Value → H → Prop) : Prop := ∃ (u : U) (b : Nat) (l : List (List Int)) (c : List Int), vs = [.map (some b), encK c] ∧ MapG ksK encK h b (posL l) l.length ∧ l.length ≤ 4611686018427387904 ∧ c.length = 9 ∧ (∀ x ∈ c, Rep.wf x) ∧
  (c ∈ l → ∀ u' h', Step S0 u h u' h' → K (.tuple #[.int .i64 (idL l c), .bool false]) h') ∧ (c ∉ l → ∀ u' h', Step (fun i => i = b) u h u' h' → MapG ksK encK h' b (posL (l ++ [c])) (l.length + 1) → K (.tuple #[.int .i64 l.length, .bool true]) h')
theorem crNumK_ok {vs : List Value} {h : H} {K : Value → H → Prop} {KP : List PanicEntry → H → Prop} (hC : C_numK vs h K) : HCX Try.prog 58 vs h K KP := by
  obtain ⟨u, b, l, c, rfl, hm, hn, hl, hw, h1, h2⟩ := hC
  have hkey := keyK hl hw
  obtain ⟨a0, a1, a2, a3, a4, a5, a6, a7, a8, rfl⟩ : ∃ a0 a1 a2 a3 a4 a5 a6 a7 a8, c = [a0, a1, a2, a3, a4, a5, a6, a7, a8] := by
    match c, hl with
    | [a0, a1, a2, a3, a4, a5, a6, a7, a8], _ => exact ⟨_, _, _, _, _, _, _, _, _, rfl⟩
  obtain ⟨c, hc0⟩ : ∃ c, c = [a0, a1, a2, a3, a4, a5, a6, a7, a8] := ⟨_, rfl⟩
  have henc : encK c = .agg #[.int .i64 a0, .int .i64 a1, .int .i64 a2, .int .i64 a3, .int .i64 a4, .int .i64 a5, .int .i64 a6, .int .i64 a7, .int .i64 a8] := by rw [hc0]; rfl
  rw [← hc0] at h1 h2 hkey
  rw [← hc0]
  refine crNumK_H (fun _ _ _ _ _ => False) (fun _ _ _ _ _ h => h.elim) _ _ ?_
  have sp : Step S0 u h _ _ := Step.push0 S0 u h #[.int .i64 a0, .int .i64 a1, .int .i64 a2, .int .i64 a3, .int .i64 a4, .int .i64 a5, .int .i64 a6, .int .i64 a7, .int .i64 a8] 143
  have hmp := hm.step sp (fun h => h)
  have hbl := hm.lt
  rw [henc]
  simp (disch := first | omega | (simp only [e_ssz, e_psz, e_hszs, List.length_cons, List.length_nil]; try omega; done)) only [↓reduceIte, go_sem, crNumK_S, crNumK_E]
  rw [← henc]
  refine effS_lookg (enc := encK) (s := c) encK_inj hkey hmp ⟨by simp (disch := first | omega | (simp only [e_ssz, e_psz, e_hszs, List.length_cons, List.length_nil]; try omega; done)) only [go_sem], ?_⟩
  by_cases hc : c ∈ l
  · obtain ⟨n, e⟩ : ∃ n, posL l c = some n := Option.isSome_iff_exists.1 (posL_some.2 hc)
    have e2 : idL l c = n := by unfold idL; rw [e]; rfl
    rw [e]
    simp only [lookV, if_true, Option.isSome_some, Option.getD_some]
    simp (disch := first | omega | (simp only [e_ssz, e_psz, e_hszs, List.length_cons, List.length_nil]; try omega; done)) only [↓reduceIte, go_sem]
    rw [← e2]
    exact h1 hc _ _ sp
  · have e : posL l c = none := by unfold posL; rw [if_neg hc]
    rw [e]
    simp only [lookV, if_true, Option.isSome_none, Option.getD_none]
    simp (disch := first | omega | (simp only [e_ssz, e_psz, e_hszs, List.length_cons, List.length_nil]; try omega; done)) only [↓reduceIte, go_sem]
    refine effS_lenmg hmp ⟨by simp (disch := first | omega | (simp only [e_ssz, e_psz, e_hszs, List.length_cons, List.length_nil]; try omega; done)) only [go_sem], ?_⟩
    simp (disch := first | omega | (simp only [e_ssz, e_psz, e_hszs, List.length_cons, List.length_nil]; try omega; done)) only [↓reduceIte, go_sem]
    rw [← henc]
    refine effS_mputg (enc := encK) (s := c) (ub u h.size 0) encK_inj hkey hmp fun h' st hm' => ⟨by simp (disch := first | omega | (simp only [e_ssz, e_psz, e_hszs, List.length_cons, List.length_nil]; try omega; done)) only [go_sem], ?_⟩
    rw [e] at hm'
    simp only [Option.isSome_none, Bool.false_eq_true, if_false] at hm'
    have em : putg (posL l) c (l.length : Int) = posL (l ++ [c]) := by
      funext s; rw [posL_snoc hc]; rfl
    rw [em] at hm'
    simp (disch := first | omega | (simp only [e_ssz, e_psz, e_hszs, List.length_cons, List.length_nil]; try omega; done)) only [↓reduceIte, go_sem]
    refine effS_lenmg hm' ⟨by simp (disch := first | omega | (simp only [e_ssz, e_psz, e_hszs, List.length_cons, List.length_nil]; try omega; done)) only [go_sem], ?_⟩
    simp (disch := first | omega | (simp only [e_ssz, e_psz, e_hszs, List.length_cons, List.length_nil]; try omega; done)) only [↓reduceIte, go_sem]
    have e3 : ((l.length + 1 : Nat) : Int) - 1 = l.length := by omega
    rw [e3]
    exact h2 hc _ h' ((sp.mono (S' := fun i => i = b) (fun _ _ h => h.elim)).trans st (fun _ _ h => h)) hm'
end Go.Proofs.Ytkobamedfbgjbaa
