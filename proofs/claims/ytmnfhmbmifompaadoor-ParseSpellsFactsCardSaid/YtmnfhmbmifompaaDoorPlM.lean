/- The laws' own, walked: body of the token walk; refused. -/
import Derived.Test.YtmnfhmbmifompaaDoorPlL
namespace Go.Proofs.YtmnfhmbmifompaaDoor
open Go Go.Ev Edict
def C_wBody (vs : List Value) (h : H) (K : Value → H → Prop) : Prop := ∃ (u : U) (wb : Nat) (sl : Value) (L : List Tok) (i : Nat) (v : Value) (l : List LitT) (q : List Tok), vs = [.pointer (some ⟨wb, 0, none⟩), v] ∧ WkB u h wb sl L i ∧ IsSl u h v l ∧ (0 < l.length ∧ l.length ≤ 16) ∧ BodyOk true l (L.drop i) q ∧ (∀ t ∈ L, WfT t) ∧
  ∀ u' h' v i', Step (fun b => b = wb) u h u' h' → WkB u' h' wb sl L i' → L.drop i' = q → K v h'
def G_wBody : Ctr := fun f vs h K _ => (f = 34 ∧ C_eat vs h K) ∨ (f = 73 ∧ C_wLit vs h K)
theorem G_wBody_ok : GOk Tryd.prog G_wBody := by
  rintro f vs h K KP (⟨rfl, hC⟩ | ⟨rfl, hC⟩)
  · exact plEat_ok hC
  · exact plWLit_ok hC
theorem plWBody_ok {vs : List Value} {h : H} {K : Value → H → Prop} {KP : List PanicEntry → H → Prop} (hC : C_wBody vs h K) : HCX Tryd.prog 35 vs h K KP := by
  obtain ⟨u, wb, sl, L, i, v, l, q, rfl, hW, iv, ⟨hl0, hl16⟩, hB, hwf, hK⟩ := hC
  refine plWBody_H G_wBody G_wBody_ok _ _ ?_
  have hwb : wb < h.size := hW.1.1
  obtain ⟨va, vc, rfl, m1, m2⟩ := iv.sl
  have hB1 := hW.1
  obtain ⟨h2, hh2, s2, hW2⟩ := hW.good
  have iv2 := iv.mono s2.ge
  simp (disch := first | omega | (simp only [e_ssz, e_psz, e_hszs, List.length_cons, List.length_nil]; try omega; done)) only [↓reduceIte, go_sem, plWBody_S, plWBody_E, hB1.at, hB1.2.1, hB1.2.2.1, eq_true (show (0 : Int) < (l.length : Nat) by omega), eq_true (show ((l.length : Nat) : Int) ≤ 16 by omega), ← hh2]
  obtain ⟨I, hI⟩ : ∃ I : Nat → Env → H → Prop, I = fun k σ h' => ∃ (u' : U) (j : Nat), σ 0 = .pointer (some ⟨wb, 0, none⟩) ∧ σ 1 = .slice va l.length vc ∧ σ 23 = .int .i64 (l.length : Nat) ∧ σ 24 = .int .i64 k ∧ k ≤ l.length ∧ Step (fun b => b = wb) u h u' h' ∧ WkB u' h' wb sl L j ∧ IsSl u' h' (.slice va l.length vc) l ∧ BodyOk (decide (k = 0)) (l.drop k) (L.drop j) q := ⟨_, rfl⟩
  refine wpS_loop I (fun j => l.length - j) 0 (by rw [hI]; exact ⟨u, i, by simp [upd], by simp [upd], by simp [upd], by simp [upd], by omega, s2, hW2, iv2, hB⟩) ?_
  clear hh2 s2 hW2 iv2 hB hB1
  intro k σ h' hy
  rw [hI] at hy
  obtain ⟨u', j, e0, e1, e23, e24, hk, st, hWj, ivj, hB⟩ := hy
  by_cases hlt : k < l.length
  case neg =>
    rw [List.drop_eq_nil_of_le (by omega)] at hB
    obtain ⟨c, hc, hc8⟩ := hB
    simp (disch := first | omega | (simp only [e_ssz, e_psz, e_hszs, List.length_cons, List.length_nil]; try omega; done)) only [↓reduceIte, go_sem, plWBody_L1, e0, e23, e24, eq_false (show ¬ (k : Int) < (l.length : Nat) by omega)]
    refine effS_call (.inl ⟨rfl, u', wb, sl, L, j, c, q, by rw [hc8], hWj, hc, fun u2 h2 s2 hW2 => ⟨by simp (disch := first | omega | (simp only [e_ssz, e_psz, e_hszs, List.length_cons, List.length_nil]; try omega; done)) only [go_sem], ?_⟩⟩)
    have hK' := fun v => hK _ _ v _ (st.trans s2 (fun _ _ q => q)) hW2 (drop_cons hc).2.2
    simp (disch := first | omega | (simp only [e_ssz, e_psz, e_hszs, List.length_cons, List.length_nil]; try omega; done)) only [go_sem]
    exact hK' _
  obtain ⟨y, hy⟩ : ∃ y, l[k]? = some y := ⟨l[k], by simp [hlt]⟩
  have hdk : l.drop k = y :: l.drop (k + 1) := by rw [List.drop_eq_getElem_cons hlt]; congr 1; rw [List.getElem?_eq_getElem hlt] at hy; exact Option.some.inj hy
  rw [hdk] at hB
  obtain ⟨m, n, hm, hLit, hB2⟩ := hB
  have nx : ∀ (u6 : U) (h6 : H) (σ6 : Env) (i6 : Nat), σ6 0 = .pointer (some ⟨wb, 0, none⟩) → σ6 1 = .slice va l.length vc → σ6 23 = .int .i64 (l.length : Nat) → σ6 24 = .int .i64 ((k : Int) + 1) → Step (fun b => b = wb) u' h' u6 h6 → WkB u6 h6 wb sl L i6 → L.drop i6 = n → ∃ y, I y σ6 h6 ∧ l.length - y < l.length - k := by
    intro u6 h6 σ6 i6 g0 g1 g23 g24 s6 hW6 hd6
    refine ⟨k + 1, ?_, by omega⟩
    rw [hI]
    exact ⟨u6, i6, g0, g1, g23, by rw [g24]; rfl, hlt, st.trans s6 (fun _ _ q => q), hW6, ivj.mono s6.ge, by rw [hd6]; exact hB2⟩
  by_cases hk0 : k = 0
  · simp only [hk0, decide_true, if_true] at hm
    obtain ⟨pb, po, rfl, hpb, hpu, hpz, hpr⟩ := ivj.row k _ hy
    rw [rep_lit] at hpr
    obtain ⟨w, hpr, iw⟩ := hpr
    have hpr' := hpr
    simp only [litE, sz_lit, hvs_14, List.cons.injEq, and_true] at hpr hpu hpz
    obtain ⟨p0, p1, p2, p3, p4, p5, p6, p7, p8, p9, p10, p11, p12, p13⟩ := hpr
    simp (disch := first | omega | (simp only [e_ssz, e_psz, e_hszs, List.length_cons, List.length_nil]; try omega; done)) only [↓reduceIte, go_sem, plWBody_L1, e0, e1, e23, e24, eq_true (show (k : Int) < (l.length : Nat) by omega), eq_false (show ¬ (0 : Int) < (k : Nat) by omega), p0, p1, p2, p3, p4, p5, p6, p7, p8, p9, p10, p11, p12, p13]
    refine effS_call (.inr ⟨rfl, u', wb, sl, L, j, y, w, n, rfl, hWj, iw, by rw [hm]; exact hLit, hwf, fun u6 h6 v6 i6 s6 hW6 hd6 => ⟨by simp (disch := first | omega | (simp only [e_ssz, e_psz, e_hszs, List.length_cons, List.length_nil]; try omega; done)) only [go_sem], ?_⟩⟩)
    simp (disch := first | omega | (simp only [e_ssz, e_psz, e_hszs, List.length_cons, List.length_nil]; try omega; done)) only [↓reduceIte, go_sem, e24]
    exact nx u6 h6 _ i6 (by simp [upd, e0]) (by simp [upd, e1]) (by simp [upd, e23]) (by simp [upd]) s6 hW6 hd6
  · rw [decide_eq_false hk0] at hm
    simp only [Bool.false_eq_true, if_false] at hm
    obtain ⟨s, hs, hs7⟩ := hm
    simp (disch := first | omega | (simp only [e_ssz, e_psz, e_hszs, List.length_cons, List.length_nil]; try omega; done)) only [↓reduceIte, go_sem, plWBody_L1, e0, e23, e24, eq_true (show (k : Int) < (l.length : Nat) by omega), eq_true (show (0 : Int) < (k : Nat) by omega)]
    refine effS_call (.inl ⟨rfl, u', wb, sl, L, j, s, m, by rw [hs7], hWj, hs, fun u2 h2 s2 hW2 => ⟨by simp (disch := first | omega | (simp only [e_ssz, e_psz, e_hszs, List.length_cons, List.length_nil]; try omega; done)) only [go_sem], ?_⟩⟩)
    obtain ⟨pb, po, rfl, hpb, hpu, hpz, hpr⟩ := (ivj.mono s2.ge).row k _ hy
    rw [rep_lit] at hpr
    obtain ⟨w, hpr, iw⟩ := hpr
    simp only [litE, sz_lit, hvs_14, List.cons.injEq, and_true] at hpr hpu hpz
    obtain ⟨p0, p1, p2, p3, p4, p5, p6, p7, p8, p9, p10, p11, p12, p13⟩ := hpr
    simp (disch := first | omega | (simp only [e_ssz, e_psz, e_hszs, List.length_cons, List.length_nil]; try omega; done)) only [↓reduceIte, go_sem, e0, e1, hlt, p0, p1, p2, p3, p4, p5, p6, p7, p8, p9, p10, p11, p12, p13]
    refine effS_call (.inr ⟨rfl, u2, wb, sl, L, j + 1, y, w, n, rfl, hW2, iw, by rw [(drop_cons hs).2.2]; exact hLit, hwf, fun u6 h6 v6 i6 s6 hW6 hd6 => ⟨by simp (disch := first | omega | (simp only [e_ssz, e_psz, e_hszs, List.length_cons, List.length_nil]; try omega; done)) only [go_sem], ?_⟩⟩)
    simp (disch := first | omega | (simp only [e_ssz, e_psz, e_hszs, List.length_cons, List.length_nil]; try omega; done)) only [↓reduceIte, go_sem, e24]
    exact nx u6 h6 _ i6 (by simp [upd, e0]) (by simp [upd, e1]) (by simp [upd, e23]) (by simp [upd]) (s2.trans s6 (fun _ _ q => q)) hW6 hd6
def refT : S := sS (sS plRefused_S)
theorem ref_cut : plRefused_S = .seq (sF plRefused_S) (.seq (sF (sS plRefused_S)) refT) := rfl
def C_refd (vs : List Value) (h : H) (K : Value → H → Prop) : Prop := ∃ (u : U) (v : Value) (L : List Tok) (own f : Flt), vs = [v, fltV own, fltV f] ∧ IsSl u h v L ∧ refusedF L own f = true ∧ ∀ u' h', Step S0 u h u' h' → K (.bool true) h'
theorem plRefused_ok {vs : List Value} {h : H} {K : Value → H → Prop} {KP : List PanicEntry → H → Prop} (hC : C_refd vs h K) : HCX Tryd.prog 32 vs h K KP := by
  obtain ⟨u, v, L, own, f, rfl, iv, hR, hK⟩ := hC
  refine plRefused_H (fun _ _ _ _ _ => False) (fun _ _ _ _ _ h => h.elim) _ _ _ ?_
  have hm := mlen'
  obtain ⟨va, vc, rfl, m1, m2⟩ := iv.sl
  simp only [fltV]
  obtain ⟨u2, s2, B1, B2⟩ := two_new (u := u) (h := h) [.int .i64 own.1, .int .i64 0, .int .i64 own.2] [.int .i64 f.1, .int .i64 0, .int .i64 f.2] 27 27
  obtain ⟨h2, hh2⟩ : ∃ h2, h2 = (h.push (.cells #[.int .i64 own.1, .int .i64 0, .int .i64 own.2] 27)).push (.cells #[.int .i64 f.1, .int .i64 0, .int .i64 f.2] 27) := ⟨_, rfl⟩
  rw [← hh2] at s2 B1 B2
  have B11 := B1.1
  have B21 := B2.1
  rw [ref_cut]
  by_cases hown : own.1 ≠ 0 ∧ f = own
  · obtain ⟨ho, rfl⟩ := hown
    simp (disch := first | omega | (simp only [e_ssz, e_psz, e_hszs, List.length_cons, List.length_nil]; try omega; done)) only [↓reduceIte, go_sem, sF, sS, plRefused_S, plRefused_E, ← hh2, B1.at, B1.2.1, B2.at, B2.2.1, eq_false ho]
    exact hK _ _ s2
  have hR2 : (20 ≤ f.1 ∧ f.1 ≤ 24) ∧ ∃ t ∈ L, tO t = f.2 ∧ (tK t = 0 ↔ f.1 = 21) := by
    unfold refusedF at hR
    rw [Bool.or_eq_true] at hR
    rcases hR with hR | hR
    · rw [Bool.and_eq_true] at hR
      exact absurd ⟨by simpa using hR.1, of_decide_eq_true hR.2⟩ hown
    · rw [Bool.and_eq_true, Bool.and_eq_true] at hR
      obtain ⟨t, ht, hq⟩ := List.any_eq_true.1 hR.2
      rw [Bool.and_eq_true] at hq
      refine ⟨⟨of_decide_eq_true hR.1.1, of_decide_eq_true hR.1.2⟩, t, ht, of_decide_eq_true hq.1, ?_⟩
      have := hq.2
      by_cases a : tK t = 0 <;> by_cases b : f.1 = 21 <;> simp [a, b] at this ⊢
  obtain ⟨⟨h20, h24⟩, t0, ht0, hto, htk⟩ := hR2
  obtain ⟨m, hm'⟩ := List.mem_iff_getElem?.1 ht0
  have tl : ∀ σ : Env, σ 0 = .slice va L.length vc → σ 5 = .pointer (some ⟨h.size + 1, 0, none⟩) → wpS (fun _ _ _ _ _ => False) refT (retQ plRefused_E (callK K KP)) σ h2 := by
    intro σ e0 e5
    simp (disch := first | omega | (simp only [e_ssz, e_psz, e_hszs, List.length_cons, List.length_nil]; try omega; done)) only [↓reduceIte, go_sem, refT, sS, plRefused_S, plRefused_E, e0, e5, B2.at, B2.2.1, eq_false (show ¬ f.1 < 20 by omega), eq_false (show ¬ 24 < f.1 by omega)]
    obtain ⟨I, hI⟩ : ∃ I : Nat → Env → H → Prop, I = fun k σ h' => ∃ u', σ 5 = .pointer (some ⟨h.size + 1, 0, none⟩) ∧ σ 30 = .slice va L.length vc ∧ σ 31 = .int .i64 (L.length : Nat) ∧ σ 32 = .int .i64 k ∧ k ≤ m ∧ Step S0 u2 h2 u' h' := ⟨_, rfl⟩
    refine wpS_loop I (fun j => L.length - j) 0 (by rw [hI]; exact ⟨u2, by simp [upd, e5], by simp [upd], by simp [upd], by simp [upd], by omega, Step.refl _ _ _⟩) ?_
    intro k σ' h' hy
    rw [hI] at hy
    obtain ⟨u', f5, f30, f31, f32, hk, st⟩ := hy
    have hml : m < L.length := (List.getElem?_eq_some_iff.1 hm').1
    have hlt : k < L.length := by omega
    obtain ⟨t, ht⟩ : ∃ t, L[k]? = some t := ⟨L[k], by simp [hlt]⟩
    have jv := (iv.mono s2.ge).mono st.ge
    obtain ⟨pb, po, rfl, -, -, -, -⟩ := jv.row k t ht
    obtain ⟨hpb, hpz, p0, p1, p2, p3, p4, p5⟩ := tok_at jv k ht
    have C2 := B2.step0 st
    obtain ⟨h3, h4, u4, hh3, hh4, B3, B4, s4, hz4⟩ := boxed u' h' [.int .i64 0, str [], .int .i64 0, .int .i64 0, .int .i64 0, .int .i64 0] [.int .i64 t.1, str t.2.1, .int .i64 t.2.2.1, .int .i64 t.2.2.2.1, .int .i64 t.2.2.2.2.1, .int .i64 t.2.2.2.2.2] 75 rfl
    have C4 := C2.step0 s4
    have C41 := C4.1
    have B31 := B3.1
    have B41 := B4.1
    have nx : ∀ σ9 : Env, σ9 5 = .pointer (some ⟨h.size + 1, 0, none⟩) → σ9 30 = .slice (some ⟨pb, po, none⟩) L.length vc → σ9 31 = .int .i64 (L.length : Nat) → σ9 32 = .int .i64 ((k : Int) + 1) → ¬ (t.2.2.2.2.1 = f.2 ∧ (t.1 = 0 ↔ f.1 = 21)) → ∃ y, I y σ9 h4 ∧ L.length - y < L.length - k := by
      intro σ9 g5 g30 g31 g32 hno
      refine ⟨k + 1, ?_, by omega⟩
      rw [hI]
      refine ⟨u4, g5, g30, g31, by rw [g32]; rfl, ?_, st.trans0 s4⟩
      by_cases hkm : k = m
      · subst hkm
        rw [ht] at hm'
        cases hm'
        exact absurd ⟨hto, htk⟩ hno
      · omega
    by_cases hgo : t.2.2.2.2.1 = f.2
    · by_cases hz : t.1 = 0 <;> by_cases h21 : f.1 = 21
      · simp (disch := first | omega | (simp only [e_ssz, e_psz, e_hszs, List.length_cons, List.length_nil]; try omega; done)) only [↓reduceIte, go_sem, plRefused_L1, f5, f30, f31, f32, eq_true (show (k : Int) < (L.length : Nat) by omega), p0, p1, p2, p3, p4, p5, ← hh3, ← hh4, B3.2.1, B3.2.2.1, B4.at, B4.2.1, C4.at, C4.2.1, eq_true hgo, eq_true hz, eq_true h21]
        exact hK _ _ ((s2.trans0 st).trans0 s4)
      · simp (disch := first | omega | (simp only [e_ssz, e_psz, e_hszs, List.length_cons, List.length_nil]; try omega; done)) only [↓reduceIte, go_sem, plRefused_L1, f5, f30, f31, f32, eq_true (show (k : Int) < (L.length : Nat) by omega), p0, p1, p2, p3, p4, p5, ← hh3, ← hh4, B3.2.1, B3.2.2.1, B4.at, B4.2.1, C4.at, C4.2.1, eq_true hgo, eq_true hz, eq_false h21]
        exact nx _ (by simp [upd, f5]) (by simp [upd, f30]) (by simp [upd, f31]) (by simp [upd]) (fun q => h21 (q.2.1 hz))
      · simp (disch := first | omega | (simp only [e_ssz, e_psz, e_hszs, List.length_cons, List.length_nil]; try omega; done)) only [↓reduceIte, go_sem, plRefused_L1, f5, f30, f31, f32, eq_true (show (k : Int) < (L.length : Nat) by omega), p0, p1, p2, p3, p4, p5, ← hh3, ← hh4, B3.2.1, B3.2.2.1, B4.at, B4.2.1, C4.at, C4.2.1, eq_true hgo, eq_false hz, eq_true h21]
        exact nx _ (by simp [upd, f5]) (by simp [upd, f30]) (by simp [upd, f31]) (by simp [upd]) (fun q => hz (q.2.2 h21))
      · simp (disch := first | omega | (simp only [e_ssz, e_psz, e_hszs, List.length_cons, List.length_nil]; try omega; done)) only [↓reduceIte, go_sem, plRefused_L1, f5, f30, f31, f32, eq_true (show (k : Int) < (L.length : Nat) by omega), p0, p1, p2, p3, p4, p5, ← hh3, ← hh4, B3.2.1, B3.2.2.1, B4.at, B4.2.1, C4.at, C4.2.1, eq_true hgo, eq_false hz, eq_false h21]
        exact hK _ _ ((s2.trans0 st).trans0 s4)
    · simp (disch := first | omega | (simp only [e_ssz, e_psz, e_hszs, List.length_cons, List.length_nil]; try omega; done)) only [↓reduceIte, go_sem, plRefused_L1, f5, f30, f31, f32, eq_true (show (k : Int) < (L.length : Nat) by omega), p0, p1, p2, p3, p4, p5, ← hh3, ← hh4, B3.2.1, B3.2.2.1, B4.at, B4.2.1, C4.at, C4.2.1, eq_false hgo]
      exact nx _ (by simp [upd, f5]) (by simp [upd, f30]) (by simp [upd, f31]) (by simp [upd]) (fun q => hgo q.1)
  by_cases ho : own.1 = 0
  · simp (disch := first | omega | (simp only [e_ssz, e_psz, e_hszs, List.length_cons, List.length_nil]; try omega; done)) only [↓reduceIte, go_sem, sF, sS, plRefused_S, plRefused_E, ← hh2, B1.at, B1.2.1, B2.at, eq_true ho]
    exact tl _ (by simp [upd]) (by simp [upd])
  by_cases h1 : f.1 = own.1
  · have h2' : ¬ f.2 = own.2 := fun q => hown ⟨ho, Prod.ext h1 q⟩
    simp (disch := first | omega | (simp only [e_ssz, e_psz, e_hszs, List.length_cons, List.length_nil]; try omega; done)) only [↓reduceIte, go_sem, sF, sS, plRefused_S, plRefused_E, ← hh2, B1.at, B1.2.1, B2.at, B2.2.1, eq_false ho, eq_true h1, eq_false h2']
    exact tl _ (by simp [upd]) (by simp [upd])
  · simp (disch := first | omega | (simp only [e_ssz, e_psz, e_hszs, List.length_cons, List.length_nil]; try omega; done)) only [↓reduceIte, go_sem, sF, sS, plRefused_S, plRefused_E, ← hh2, B1.at, B1.2.1, B2.at, B2.2.1, eq_false ho, eq_false h1]
    exact tl _ (by simp [upd]) (by simp [upd])
end Go.Proofs.YtmnfhmbmifompaaDoor
