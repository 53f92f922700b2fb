/- The document's answer, walked: cut, sentences. -/
import Derived.Test.YtmnfhmbmifompaaGreatDoorPrK
namespace Edict
theorem depF_le {d k : Int} {n : Nat} (h : -(n : Int) ≤ d ∧ d ≤ n) : -((n + 1 : Nat) : Int) ≤ depF d k ∧ depF d k ≤ ((n + 1 : Nat) : Int) := by
  unfold depF
  split
  · omega
  · split <;> omega
theorem cutF_cons {k d : Int} {now : List Tok} {t : Tok} {l : List Tok} : cutF k d now (t :: l) = if tK t = k ∧ depF d (tK t) = 0 then now :: cutF k (depF d (tK t)) [] l else cutF k (depF d (tK t)) (now ++ [t]) l := by rw [cutF]
theorem cutF_len (k : Int) : ∀ (l : List Tok) (d : Int) (now : List Tok), (cutF k d now l).length ≤ l.length + 1
  | [], d, now => by simp [cutF]
  | t :: l, d, now => by
    rw [cutF_cons]
    split
    · have := cutF_len k l (depF d (tK t)) []
      simp only [List.length_cons]; omega
    · have := cutF_len k l (depF d (tK t)) (now ++ [t])
      simp only [List.length_cons]; omega
theorem cutF_each (k : Int) : ∀ (l : List Tok) (d : Int) (now : List Tok), ∀ s ∈ cutF k d now l, s.length ≤ now.length + l.length
  | [], d, now => fun s hs => by rw [cutF] at hs; rw [List.mem_singleton.1 hs]; simp
  | t :: l, d, now => fun s hs => by
    rw [cutF_cons] at hs
    split at hs
    · rcases List.mem_cons.1 hs with rfl | hs
      · simp only [List.length_cons]; omega
      · have := cutF_each k l _ _ s hs
        simp only [List.length_nil, List.length_cons] at this ⊢; omega
    · have := cutF_each k l _ _ s hs
      simp only [List.length_append, List.length_cons, List.length_nil] at this ⊢; omega
end Edict
namespace Go.Ev
open Go Rep Edict
theorem isSl_take {α : Type} [Rep α] {u : U} {h : H} {a : Option Addr} {n c : Nat} {l : List α} (hs : IsSl u h (.slice a n c) l) {k : Nat} (hk : k ≤ l.length) : IsSl u h (.slice a k c) (l.take k) := by
  obtain ⟨a', n', c', h1, h2, h3, h4, h5, h6⟩ := hs
  simp only [Value.slice.injEq] at h1
  obtain ⟨rfl, rfl, rfl⟩ := h1
  have hl : (l.take k).length = k := by rw [List.length_take]; omega
  refine ⟨a, k, c, rfl, hl.symm, by omega, h4, h5, fun hne => ?_⟩
  have hne' : l ≠ [] := fun e => hne (by rw [e]; simp)
  obtain ⟨b, o, e, hb, hu, hz, hr⟩ := h6 hne'
  have := Nat.mul_le_mul_right (Rep.sz α) hk
  refine ⟨b, o, e, hb, by rw [hl]; omega, by rw [hl]; omega, fun i x hx => hr i x ?_⟩
  rw [List.getElem?_take] at hx
  split at hx
  · exact hx
  · cases hx
end Go.Ev
namespace Go.Proofs.YtmnfhmbmifompaaGreatDoor
open Go Go.Ev Edict
def C_rCut (vs : List Value) (h : H) (K : Value → H → Prop) : Prop := ∃ (u : U) (v : Value) (L : List Tok) (k : Int), vs = [v, .int .i64 k] ∧ IsSl u h v L ∧ L.length ≤ 65537 ∧ ∀ u' h' w, Step S0 u h u' h' → Own h.size u' h' w (cutF k 0 [] L) → K w h'
theorem rpCut_ok {vs : List Value} {h : H} {K : Value → H → Prop} {KP : List PanicEntry → H → Prop} (hC : C_rCut vs h K) : HCX Tryz.prog 23 vs h K KP := by
  obtain ⟨u, v, L, kk, rfl, hi, hLl, hK⟩ := hC
  obtain ⟨ta, tc, rfl, m1, m2⟩ := hi.sl
  refine rpCut_H (fun _ _ _ _ _ => False) (fun _ _ _ _ _ h => h.elim) _ _ ?_
  simp (disch := first | omega | (simp only [e_ssz, e_psz, e_hszs, List.length_cons, List.length_nil]; try omega; done)) only [↓reduceIte, go_sem, rpCut_S, rpCut_E]
  obtain ⟨F, hF⟩ : ∃ F, F = cutF kk 0 [] L := ⟨_, rfl⟩
  rw [← hF] at hK
  obtain ⟨I, hI⟩ : ∃ I : Nat → Env → H → Prop, I = fun i σ h' => ∃ (u' : U) (wo wn : Value) (out : List (List Tok)) (now : List Tok) (d : Int), σ 1 = .int .i64 kk ∧ σ 5 = wo ∧ σ 6 = wn ∧ σ 7 = .int .i64 d ∧ σ 10 = .slice ta L.length tc ∧ σ 11 = .int .i64 (L.length : Nat) ∧ σ 12 = .int .i64 i ∧ i ≤ L.length ∧ Step S0 u h u' h' ∧ Own h.size u' h' wo out ∧ Own h.size u' h' wn now ∧ (∀ b, OwnB wo b → ¬ OwnB wn b) ∧ out.length ≤ i ∧ now.length ≤ i ∧ (-(i : Int) ≤ d ∧ d ≤ i) ∧ out ++ cutF kk d now (L.drop i) = F := ⟨_, rfl⟩
  refine wpS_loop I (fun j => L.length - j) 0 (by rw [hI]; exact ⟨u, _, _, [], [], 0, by simp [upd], by simp [upd], by simp [upd], by simp [upd], by simp [upd], by simp [upd], by simp [upd], by omega, Step.refl _ _ _, .nil _ _ _, .nil _ _ _, fun b ⟨_, _, _, q⟩ => (by cases q), by simp, by simp, by omega, by rw [List.drop_zero, hF]; rfl⟩) ?_
  clear hF
  intro i σ h' hy
  rw [hI] at hy
  obtain ⟨u', wo, wn, out, now, d, e1, e5, e6, e7, e10, e11, e12, hi', st, owo, own, hD, hol, hnl, hd, hA⟩ := hy
  obtain ⟨oa, oc, rfl, o1, o2⟩ := owo.sl
  obtain ⟨na, nc, rfl, n1, n2⟩ := own.sl
  have hz := st.ge.sz
  by_cases hlt : i < L.length
  case neg =>
    rw [List.drop_eq_nil_of_le (by omega), cutF] at hA
    have hrep : Rep.rep u' h' now [.slice na now.length nc] := by rw [rep_list]; exact ⟨_, rfl, own.isSl⟩
    simp (disch := first | omega | (simp only [e_ssz, e_psz, e_hszs, List.length_cons, List.length_nil]; try omega; done)) only [↓reduceIte, go_sem, rpCut_L1, e5, e6, e11, e12, eq_false (show ¬ (i : Int) < (L.length : Nat) by omega)]
    refine effS_app1q (by simp only []) owo (x := now) hrep rfl rfl hz (by omega) fun a5 n5 c5 u5 h5 o5 s5 hO5 => ⟨by simp (disch := first | omega | (simp only [e_ssz, e_psz, e_hszs, List.length_cons, List.length_nil]; try omega; done)) only [go_sem], ?_⟩
    rw [hA] at o5
    have st5 := st.trans s5 (fun b hb q => by have := owo.ge q; omega)
    simp (disch := first | omega | (simp only [e_ssz, e_psz, e_hszs, List.length_cons, List.length_nil]; try omega; done)) only [↓reduceIte, go_sem]
    exact hK _ _ _ st5 o5
  obtain ⟨x, hx⟩ : ∃ x, L[i]? = some x := ⟨L[i], by simp [hlt]⟩
  have hr : L.drop i = x :: L.drop (i + 1) := by rw [List.drop_eq_getElem_cons hlt]; congr 1; rw [List.getElem?_eq_getElem hlt] at hx; exact Option.some.inj hx
  rw [hr, cutF_cons] at hA
  have iw := hi.mono st.ge
  obtain ⟨pb, po, rfl, hpb, hpu, hpz, hpr⟩ := iw.row i x hx
  rw [rep_tok] at hpr
  simp only [tokE, sz_tok, hvs_6, List.cons.injEq, and_true] at hpr hpu hpz
  obtain ⟨p0, p1, p2, p3, p4, p5⟩ := hpr
  obtain ⟨h3, h4, u4, hh3, hh4, B3, B4, s4, hz4⟩ := boxed u' h' [.int .i64 0, str [], .int .i64 0, .int .i64 0, .int .i64 0, .int .i64 0] (tokE x) 40 rfl
  simp only [tokE] at hh4 B4
  have owo4 := owo.step0 s4
  have own4 := own.step0 s4
  have st4 := st.trans0 s4
  have B31 := B3.1
  have B41 := B4.1
  have hz4' := st4.ge.sz
  have hdn := depF_le (k := tK x) hd
  obtain ⟨d', hd'⟩ : ∃ d', d' = depF d (tK x) := ⟨_, rfl⟩
  rw [← hd'] at hA hdn
  by_cases k5 : x.1 = 5
  · have hde : d' = d + 1 := by rw [hd']; unfold depF tK; rw [if_pos k5]
    by_cases hcut : tK x = kk ∧ d' = 0
    · rw [if_pos hcut] at hA
      have hc1 : x.1 = kk := hcut.1
      have hc2 : d + 1 = 0 := by omega
      simp (disch := first | omega | (simp only [e_ssz, e_psz, e_hszs, List.length_cons, List.length_nil]; try omega; done)) only [↓reduceIte, go_sem, rpCut_L1, e1, e5, e6, e7, e10, e11, e12, eq_true (show (i : Int) < (L.length : Nat) by omega), p0, p1, p2, p3, p4, p5, ← hh3, ← hh4, B3.2.1, B3.2.2.1, B4.at, B4.2.1, eq_true k5, eq_false (show ¬ x.1 = 6 by omega), eq_true hc1, eq_true hc2]
      have hrep : Rep.rep u4 h4 now [.slice na now.length nc] := by rw [rep_list]; exact ⟨_, rfl, own4.isSl⟩
      refine effS_app1q (by simp only []) owo4 (x := now) hrep rfl rfl hz4' (by omega) fun a5 n5 c5 u5 h5 o5 s5 hO5 => ⟨by simp (disch := first | omega | (simp only [e_ssz, e_psz, e_hszs, List.length_cons, List.length_nil]; try omega; done)) only [go_sem], ?_⟩
      have st5 := st4.trans s5 (fun b hb q => by have := owo4.ge q; omega)
      obtain ⟨_, _, hme, m51, m52⟩ := o5.sl
      simp only [Value.slice.injEq] at hme
      obtain ⟨rfl, rfl, rfl⟩ := hme
      simp (disch := first | omega | (simp only [e_ssz, e_psz, e_hszs, List.length_cons, List.length_nil]; try omega; done)) only [↓reduceIte, go_sem, e12]
      refine ⟨i + 1, ?_, by omega⟩
      rw [hI]
      refine ⟨u5, _, _, out ++ [now], [], d', ?_, ?_, ?_, ?_, ?_, ?_, ?_, hlt, st5, o5, .nil _ _ _, fun b _ ⟨_, _, _, q⟩ => (by cases q), by simp; omega, by simp, hdn, by rw [List.append_assoc]; exact hA⟩ <;> simp [upd, e1, e10, e11, hde]
    · rw [if_neg hcut] at hA
      have go : x.1 = kk → ¬ d + 1 = 0 := fun a b => hcut ⟨a, by omega⟩
      have fin : ∀ (a5 : Option Addr) (n5 c5 : Nat) (u5 : U) (h5 : H), Own h.size u5 h5 (.slice a5 n5 c5) (now ++ [x]) → Step (OwnB (.slice na now.length nc)) u4 h4 u5 h5 → (∀ b, OwnB (.slice a5 n5 c5) b → OwnB (.slice na now.length nc) b ∨ h4.size ≤ b) → ∀ σ9 : Env, σ9 1 = .int .i64 kk → σ9 5 = .slice oa out.length oc → σ9 6 = .slice a5 n5 c5 → σ9 7 = .int .i64 d' → σ9 10 = .slice (some ⟨pb, po, none⟩) L.length tc → σ9 11 = .int .i64 (L.length : Nat) → σ9 12 = .int .i64 ((i : Int) + 1) → ∃ y, I y σ9 h5 ∧ L.length - y < L.length - i := fun a5 n5 c5 u5 h5 o5 s5 hO5 σ9 g1 g5 g6 g7 g10 g11 g12 => by
        refine ⟨i + 1, ?_, by omega⟩
        rw [hI]
        exact ⟨u5, _, _, out, now ++ [x], d', g1, g5, g6, g7, g10, g11, by rw [g12]; rfl, hlt, st4.trans s5 (fun b hb q => by have := own4.ge q; omega), owo4.step s5 (fun b q q' => hD b q q'), o5, fun b q q' => (hO5 b q').elim (hD b q) (fun z => by have := owo4.lt q; omega), by omega, by simp; omega, hdn, hA⟩
      by_cases hc1 : x.1 = kk
      · simp (disch := first | omega | (simp only [e_ssz, e_psz, e_hszs, List.length_cons, List.length_nil]; try omega; done)) only [↓reduceIte, go_sem, rpCut_L1, e1, e6, e7, e10, e11, e12, eq_true (show (i : Int) < (L.length : Nat) by omega), p0, p1, p2, p3, p4, p5, ← hh3, ← hh4, B3.2.1, B3.2.2.1, B4.at, B4.2.1, eq_true k5, eq_false (show ¬ x.1 = 6 by omega), eq_true hc1, eq_false (go hc1)]
        refine effS_app1q (by simp only []) own4 (x := x) (by rw [rep_tok]; rfl) rfl rfl hz4' (by omega) fun a5 n5 c5 u5 h5 o5 s5 hO5 => ⟨by simp (disch := first | omega | (simp only [e_ssz, e_psz, e_hszs, List.length_cons, List.length_nil]; try omega; done)) only [go_sem], ?_⟩
        simp (disch := first | omega | (simp only [e_ssz, e_psz, e_hszs, List.length_cons, List.length_nil]; try omega; done)) only [↓reduceIte, go_sem, e12]
        refine fin a5 n5 c5 u5 h5 o5 s5 hO5 _ ?_ ?_ ?_ ?_ ?_ ?_ ?_ <;> simp [upd, e1, e5, e10, e11, hde]
      · simp (disch := first | omega | (simp only [e_ssz, e_psz, e_hszs, List.length_cons, List.length_nil]; try omega; done)) only [↓reduceIte, go_sem, rpCut_L1, e1, e6, e7, e10, e11, e12, eq_true (show (i : Int) < (L.length : Nat) by omega), p0, p1, p2, p3, p4, p5, ← hh3, ← hh4, B3.2.1, B3.2.2.1, B4.at, B4.2.1, eq_true k5, eq_false (show ¬ x.1 = 6 by omega), eq_false hc1]
        refine effS_app1q (by simp only []) own4 (x := x) (by rw [rep_tok]; rfl) rfl rfl hz4' (by omega) fun a5 n5 c5 u5 h5 o5 s5 hO5 => ⟨by simp (disch := first | omega | (simp only [e_ssz, e_psz, e_hszs, List.length_cons, List.length_nil]; try omega; done)) only [go_sem], ?_⟩
        simp (disch := first | omega | (simp only [e_ssz, e_psz, e_hszs, List.length_cons, List.length_nil]; try omega; done)) only [↓reduceIte, go_sem, e12]
        refine fin a5 n5 c5 u5 h5 o5 s5 hO5 _ ?_ ?_ ?_ ?_ ?_ ?_ ?_ <;> simp [upd, e1, e5, e10, e11, hde]
  by_cases k6 : x.1 = 6
  · have hde : d' = d - 1 := by rw [hd']; unfold depF tK; rw [if_neg k5, if_pos k6]
    by_cases hcut : tK x = kk ∧ d' = 0
    · rw [if_pos hcut] at hA
      have hc1 : x.1 = kk := hcut.1
      have hc2 : d - 1 = 0 := by omega
      simp (disch := first | omega | (simp only [e_ssz, e_psz, e_hszs, List.length_cons, List.length_nil]; try omega; done)) only [↓reduceIte, go_sem, rpCut_L1, e1, e5, e6, e7, e10, e11, e12, eq_true (show (i : Int) < (L.length : Nat) by omega), p0, p1, p2, p3, p4, p5, ← hh3, ← hh4, B3.2.1, B3.2.2.1, B4.at, B4.2.1, eq_false k5, eq_true k6, eq_true hc1, eq_true hc2]
      have hrep : Rep.rep u4 h4 now [.slice na now.length nc] := by rw [rep_list]; exact ⟨_, rfl, own4.isSl⟩
      refine effS_app1q (by simp only []) owo4 (x := now) hrep rfl rfl hz4' (by omega) fun a5 n5 c5 u5 h5 o5 s5 hO5 => ⟨by simp (disch := first | omega | (simp only [e_ssz, e_psz, e_hszs, List.length_cons, List.length_nil]; try omega; done)) only [go_sem], ?_⟩
      have st5 := st4.trans s5 (fun b hb q => by have := owo4.ge q; omega)
      obtain ⟨_, _, hme, m51, m52⟩ := o5.sl
      simp only [Value.slice.injEq] at hme
      obtain ⟨rfl, rfl, rfl⟩ := hme
      simp (disch := first | omega | (simp only [e_ssz, e_psz, e_hszs, List.length_cons, List.length_nil]; try omega; done)) only [↓reduceIte, go_sem, e12]
      refine ⟨i + 1, ?_, by omega⟩
      rw [hI]
      refine ⟨u5, _, _, out ++ [now], [], d', ?_, ?_, ?_, ?_, ?_, ?_, ?_, hlt, st5, o5, .nil _ _ _, fun b _ ⟨_, _, _, q⟩ => (by cases q), by simp; omega, by simp, hdn, by rw [List.append_assoc]; exact hA⟩ <;> simp [upd, e1, e10, e11, hde]
    · rw [if_neg hcut] at hA
      have go : x.1 = kk → ¬ d - 1 = 0 := fun a b => hcut ⟨a, by omega⟩
      have fin : ∀ (a5 : Option Addr) (n5 c5 : Nat) (u5 : U) (h5 : H), Own h.size u5 h5 (.slice a5 n5 c5) (now ++ [x]) → Step (OwnB (.slice na now.length nc)) u4 h4 u5 h5 → (∀ b, OwnB (.slice a5 n5 c5) b → OwnB (.slice na now.length nc) b ∨ h4.size ≤ b) → ∀ σ9 : Env, σ9 1 = .int .i64 kk → σ9 5 = .slice oa out.length oc → σ9 6 = .slice a5 n5 c5 → σ9 7 = .int .i64 d' → σ9 10 = .slice (some ⟨pb, po, none⟩) L.length tc → σ9 11 = .int .i64 (L.length : Nat) → σ9 12 = .int .i64 ((i : Int) + 1) → ∃ y, I y σ9 h5 ∧ L.length - y < L.length - i := fun a5 n5 c5 u5 h5 o5 s5 hO5 σ9 g1 g5 g6 g7 g10 g11 g12 => by
        refine ⟨i + 1, ?_, by omega⟩
        rw [hI]
        exact ⟨u5, _, _, out, now ++ [x], d', g1, g5, g6, g7, g10, g11, by rw [g12]; rfl, hlt, st4.trans s5 (fun b hb q => by have := own4.ge q; omega), owo4.step s5 (fun b q q' => hD b q q'), o5, fun b q q' => (hO5 b q').elim (hD b q) (fun z => by have := owo4.lt q; omega), by omega, by simp; omega, hdn, hA⟩
      by_cases hc1 : x.1 = kk
      · simp (disch := first | omega | (simp only [e_ssz, e_psz, e_hszs, List.length_cons, List.length_nil]; try omega; done)) only [↓reduceIte, go_sem, rpCut_L1, e1, e6, e7, e10, e11, e12, eq_true (show (i : Int) < (L.length : Nat) by omega), p0, p1, p2, p3, p4, p5, ← hh3, ← hh4, B3.2.1, B3.2.2.1, B4.at, B4.2.1, eq_false k5, eq_true k6, eq_true hc1, eq_false (go hc1)]
        refine effS_app1q (by simp only []) own4 (x := x) (by rw [rep_tok]; rfl) rfl rfl hz4' (by omega) fun a5 n5 c5 u5 h5 o5 s5 hO5 => ⟨by simp (disch := first | omega | (simp only [e_ssz, e_psz, e_hszs, List.length_cons, List.length_nil]; try omega; done)) only [go_sem], ?_⟩
        simp (disch := first | omega | (simp only [e_ssz, e_psz, e_hszs, List.length_cons, List.length_nil]; try omega; done)) only [↓reduceIte, go_sem, e12]
        refine fin a5 n5 c5 u5 h5 o5 s5 hO5 _ ?_ ?_ ?_ ?_ ?_ ?_ ?_ <;> simp [upd, e1, e5, e10, e11, hde]
      · simp (disch := first | omega | (simp only [e_ssz, e_psz, e_hszs, List.length_cons, List.length_nil]; try omega; done)) only [↓reduceIte, go_sem, rpCut_L1, e1, e6, e7, e10, e11, e12, eq_true (show (i : Int) < (L.length : Nat) by omega), p0, p1, p2, p3, p4, p5, ← hh3, ← hh4, B3.2.1, B3.2.2.1, B4.at, B4.2.1, eq_false k5, eq_true k6, eq_false hc1]
        refine effS_app1q (by simp only []) own4 (x := x) (by rw [rep_tok]; rfl) rfl rfl hz4' (by omega) fun a5 n5 c5 u5 h5 o5 s5 hO5 => ⟨by simp (disch := first | omega | (simp only [e_ssz, e_psz, e_hszs, List.length_cons, List.length_nil]; try omega; done)) only [go_sem], ?_⟩
        simp (disch := first | omega | (simp only [e_ssz, e_psz, e_hszs, List.length_cons, List.length_nil]; try omega; done)) only [↓reduceIte, go_sem, e12]
        refine fin a5 n5 c5 u5 h5 o5 s5 hO5 _ ?_ ?_ ?_ ?_ ?_ ?_ ?_ <;> simp [upd, e1, e5, e10, e11, hde]
  · have hde : d' = d := by rw [hd']; unfold depF tK; rw [if_neg k5, if_neg k6]
    by_cases hcut : tK x = kk ∧ d' = 0
    · rw [if_pos hcut] at hA
      have hc1 : x.1 = kk := hcut.1
      have hc2 : d = 0 := by omega
      simp (disch := first | omega | (simp only [e_ssz, e_psz, e_hszs, List.length_cons, List.length_nil]; try omega; done)) only [↓reduceIte, go_sem, rpCut_L1, e1, e5, e6, e7, e10, e11, e12, eq_true (show (i : Int) < (L.length : Nat) by omega), p0, p1, p2, p3, p4, p5, ← hh3, ← hh4, B3.2.1, B3.2.2.1, B4.at, B4.2.1, eq_false k5, eq_false k6, eq_true hc1, eq_true hc2]
      have hrep : Rep.rep u4 h4 now [.slice na now.length nc] := by rw [rep_list]; exact ⟨_, rfl, own4.isSl⟩
      refine effS_app1q (by simp only []) owo4 (x := now) hrep rfl rfl hz4' (by omega) fun a5 n5 c5 u5 h5 o5 s5 hO5 => ⟨by simp (disch := first | omega | (simp only [e_ssz, e_psz, e_hszs, List.length_cons, List.length_nil]; try omega; done)) only [go_sem], ?_⟩
      have st5 := st4.trans s5 (fun b hb q => by have := owo4.ge q; omega)
      obtain ⟨_, _, hme, m51, m52⟩ := o5.sl
      simp only [Value.slice.injEq] at hme
      obtain ⟨rfl, rfl, rfl⟩ := hme
      simp (disch := first | omega | (simp only [e_ssz, e_psz, e_hszs, List.length_cons, List.length_nil]; try omega; done)) only [↓reduceIte, go_sem, e12]
      refine ⟨i + 1, ?_, by omega⟩
      rw [hI]
      refine ⟨u5, _, _, out ++ [now], [], d', ?_, ?_, ?_, ?_, ?_, ?_, ?_, hlt, st5, o5, .nil _ _ _, fun b _ ⟨_, _, _, q⟩ => (by cases q), by simp; omega, by simp, hdn, by rw [List.append_assoc]; exact hA⟩ <;> simp [upd, e1, e7, e10, e11, hde]
    · rw [if_neg hcut] at hA
      have go : x.1 = kk → ¬ d = 0 := fun a b => hcut ⟨a, by omega⟩
      have fin : ∀ (a5 : Option Addr) (n5 c5 : Nat) (u5 : U) (h5 : H), Own h.size u5 h5 (.slice a5 n5 c5) (now ++ [x]) → Step (OwnB (.slice na now.length nc)) u4 h4 u5 h5 → (∀ b, OwnB (.slice a5 n5 c5) b → OwnB (.slice na now.length nc) b ∨ h4.size ≤ b) → ∀ σ9 : Env, σ9 1 = .int .i64 kk → σ9 5 = .slice oa out.length oc → σ9 6 = .slice a5 n5 c5 → σ9 7 = .int .i64 d' → σ9 10 = .slice (some ⟨pb, po, none⟩) L.length tc → σ9 11 = .int .i64 (L.length : Nat) → σ9 12 = .int .i64 ((i : Int) + 1) → ∃ y, I y σ9 h5 ∧ L.length - y < L.length - i := fun a5 n5 c5 u5 h5 o5 s5 hO5 σ9 g1 g5 g6 g7 g10 g11 g12 => by
        refine ⟨i + 1, ?_, by omega⟩
        rw [hI]
        exact ⟨u5, _, _, out, now ++ [x], d', g1, g5, g6, g7, g10, g11, by rw [g12]; rfl, hlt, st4.trans s5 (fun b hb q => by have := own4.ge q; omega), owo4.step s5 (fun b q q' => hD b q q'), o5, fun b q q' => (hO5 b q').elim (hD b q) (fun z => by have := owo4.lt q; omega), by omega, by simp; omega, hdn, hA⟩
      by_cases hc1 : x.1 = kk
      · simp (disch := first | omega | (simp only [e_ssz, e_psz, e_hszs, List.length_cons, List.length_nil]; try omega; done)) only [↓reduceIte, go_sem, rpCut_L1, e1, e6, e7, e10, e11, e12, eq_true (show (i : Int) < (L.length : Nat) by omega), p0, p1, p2, p3, p4, p5, ← hh3, ← hh4, B3.2.1, B3.2.2.1, B4.at, B4.2.1, eq_false k5, eq_false k6, eq_true hc1, eq_false (go hc1)]
        refine effS_app1q (by simp only []) own4 (x := x) (by rw [rep_tok]; rfl) rfl rfl hz4' (by omega) fun a5 n5 c5 u5 h5 o5 s5 hO5 => ⟨by simp (disch := first | omega | (simp only [e_ssz, e_psz, e_hszs, List.length_cons, List.length_nil]; try omega; done)) only [go_sem], ?_⟩
        simp (disch := first | omega | (simp only [e_ssz, e_psz, e_hszs, List.length_cons, List.length_nil]; try omega; done)) only [↓reduceIte, go_sem, e12]
        refine fin a5 n5 c5 u5 h5 o5 s5 hO5 _ ?_ ?_ ?_ ?_ ?_ ?_ ?_ <;> simp [upd, e1, e5, e7, e10, e11, hde]
      · simp (disch := first | omega | (simp only [e_ssz, e_psz, e_hszs, List.length_cons, List.length_nil]; try omega; done)) only [↓reduceIte, go_sem, rpCut_L1, e1, e6, e7, e10, e11, e12, eq_true (show (i : Int) < (L.length : Nat) by omega), p0, p1, p2, p3, p4, p5, ← hh3, ← hh4, B3.2.1, B3.2.2.1, B4.at, B4.2.1, eq_false k5, eq_false k6, eq_false hc1]
        refine effS_app1q (by simp only []) own4 (x := x) (by rw [rep_tok]; rfl) rfl rfl hz4' (by omega) fun a5 n5 c5 u5 h5 o5 s5 hO5 => ⟨by simp (disch := first | omega | (simp only [e_ssz, e_psz, e_hszs, List.length_cons, List.length_nil]; try omega; done)) only [go_sem], ?_⟩
        simp (disch := first | omega | (simp only [e_ssz, e_psz, e_hszs, List.length_cons, List.length_nil]; try omega; done)) only [↓reduceIte, go_sem, e12]
        refine fin a5 n5 c5 u5 h5 o5 s5 hO5 _ ?_ ?_ ?_ ?_ ?_ ?_ ?_ <;> simp [upd, e1, e5, e7, e10, e11, hde]
def C_rSent (vs : List Value) (h : H) (K : Value → H → Prop) : Prop := ∃ (u : U) (v : Value) (L : List Tok), vs = [v] ∧ IsSl u h v L ∧ L.length ≤ 65537 ∧ ∀ u' h' w, Step S0 u h u' h' → IsSl u' h' w (sentF L) → K w h'
def G_rSent : Ctr := fun f vs h K _ => f = 23 ∧ C_rCut vs h K
theorem G_rSent_ok : GOk Tryz.prog G_rSent := by
  rintro f vs h K KP ⟨rfl, hC⟩; exact rpCut_ok hC
theorem rpSentences_ok {vs : List Value} {h : H} {K : Value → H → Prop} {KP : List PanicEntry → H → Prop} (hC : C_rSent vs h K) : HCX Tryz.prog 17 vs h K KP := by
  obtain ⟨u, v, L, rfl, hi, hLl, hK⟩ := hC
  refine rpSentences_H G_rSent G_rSent_ok _ ?_
  simp (disch := first | omega | (simp only [e_ssz, e_psz, e_hszs, List.length_cons, List.length_nil]; try omega; done)) only [↓reduceIte, go_sem, rpSentences_S, rpSentences_E]
  refine effS_call ⟨rfl, u, v, L, 8, rfl, hi, hLl, fun u' h' w s o => ⟨by simp (disch := first | omega | (simp only [e_ssz, e_psz, e_hszs, List.length_cons, List.length_nil]; try omega; done)) only [go_sem], ?_⟩⟩
  have hne := cutF_ne 8 L 0 []
  have hlen := cutF_len 8 L 0 []
  obtain ⟨C, hC⟩ : ∃ C, C = cutF 8 0 [] L := ⟨_, rfl⟩
  rw [← hC] at o hne hlen
  have hpos := List.length_pos_iff.2 hne
  obtain ⟨a, c, rfl, n1, n2⟩ := o.sl
  have hs : sentF L = C.take (C.length - 1) := by unfold sentF; rw [← hC, List.dropLast_eq_take]
  have hk := hK _ _ _ s (by rw [hs]; exact isSl_take o.isSl (by omega))
  simp (disch := first | omega | (simp only [e_ssz, e_psz, e_hszs, List.length_cons, List.length_nil]; try omega; done)) only [↓reduceIte, go_sem, show ((C.length : Nat) : Int) - 1 = ((C.length - 1 : Nat) : Int) by omega]
  exact ⟨by omega, hk⟩
end Go.Proofs.YtmnfhmbmifompaaGreatDoor
