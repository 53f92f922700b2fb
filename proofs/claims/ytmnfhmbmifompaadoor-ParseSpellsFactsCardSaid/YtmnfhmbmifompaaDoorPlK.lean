/- The laws' own, walked: atom, literal, body of the token walk; refused. -/
import Derived.Test.YtmnfhmbmifompaaDoorPlJ
namespace Edict
/-- A walk's place in an atom's terms. -/
def AtArgs (a : List TermT) (k : Nat) (l q : List Tok) : Prop := (a = [] ∧ l = q) ∨ (a ≠ [] ∧ RestOk (decide (k = 0)) (a.drop k) l q)
end Edict
namespace Go.Proofs.YtmnfhmbmifompaaDoor
open Go Go.Ev Edict
def C_wAtom (vs : List Value) (h : H) (K : Value → H → Prop) : Prop := ∃ (u : U) (wb : Nat) (sl : Value) (L : List Tok) (i : Nat) (x : AtomT) (w : Value) (q : List Tok), vs = [.pointer (some ⟨wb, 0, none⟩), .agg #[str x.1, w, .int .i64 x.2.2]] ∧ WkB u h wb sl L i ∧ IsSl u h w x.2.1 ∧ x.2.1.length ≤ 8 ∧ AtomOk x (L.drop i) q ∧ (∀ t ∈ L, WfT t) ∧
  ∀ u' h' v i', Step (fun b => b = wb) u h u' h' → WkB u' h' wb sl L i' → L.drop i' = q → K v h'
def G_wAtom : Ctr := fun f vs h K _ => (f = 34 ∧ C_eat vs h K) ∨ (f = 72 ∧ C_wTerm vs h K)
theorem G_wAtom_ok : GOk Tryd.prog G_wAtom := by
  rintro f vs h K KP (⟨rfl, hC⟩ | ⟨rfl, hC⟩)
  · exact plEat_ok hC
  · exact plWTerm_ok hC
theorem plWAtom_ok {vs : List Value} {h : H} {K : Value → H → Prop} {KP : List PanicEntry → H → Prop} (hC : C_wAtom vs h K) : HCX Tryd.prog 33 vs h K KP := by
  obtain ⟨u, wb, sl, L, i, x, w, q, rfl, hW, iw, h8, ⟨t, m, hd, ht1, htx, hto, hrest⟩, hwf, hK⟩ := hC
  refine plWAtom_H G_wAtom G_wAtom_ok _ _ ?_
  have hwb : wb < h.size := hW.1.1
  have hne1 : h.size ≠ wb := by omega
  obtain ⟨wa, wc, rfl, m1, m2⟩ := iw.sl
  have s1 := Step.push0 S0 u h #[str x.1, .slice wa x.2.1.length wc, .int .i64 x.2.2] 52
  have B1 := Blk.new (u := u) (h := h) [str x.1, .slice wa x.2.1.length wc, .int .i64 x.2.2] 52
  obtain ⟨h1, hh1⟩ : ∃ h1, h1 = h.push (.cells #[str x.1, .slice wa x.2.1.length wc, .int .i64 x.2.2] 52) := ⟨_, rfl⟩
  obtain ⟨u1, hu1⟩ : ∃ u1, u1 = ub u h.size 0 := ⟨_, rfl⟩
  have B1' : Blk u1 h1 h.size [str x.1, .slice wa x.2.1.length wc, .int .i64 x.2.2] := by rw [hu1, hh1]; exact B1
  rw [← hh1, ← hu1] at s1
  clear B1
  have B11 := B1'.1
  have hW1 := hW.step0 s1
  have iw1 := iw.mono s1.ge
  simp (disch := first | omega | (simp only [e_ssz, e_psz, e_hszs, List.length_cons, List.length_nil]; try omega; done)) only [↓reduceIte, go_sem, plWAtom_S, plWAtom_E, ← hh1]
  refine effS_call (.inl ⟨rfl, u1, wb, sl, L, i, t, m, by rw [ht1], hW1, hd, fun u2 h2 s2 hW2 => ⟨by simp (disch := first | omega | (simp only [e_ssz, e_psz, e_hszs, List.length_cons, List.length_nil]; try omega; done)) only [go_sem], ?_⟩⟩)
  have B12 := B1'.step s2 hne1
  have iw2 := iw1.mono s2.ge
  have st2 : Step (fun b => b = wb) u h u2 h2 := (s1.mono (fun _ _ q => q.elim)).trans s2 (fun _ _ q => q)
  simp only [tokE]
  obtain ⟨h3, h4, u4, hh3, hh4, B3, B4, s4, hz4⟩ := boxed u2 h2 [.int .i64 0, str [], .int .i64 0, .int .i64 0, .int .i64 0, .int .i64 0] [.int .i64 t.1, str t.2.1, .int .i64 t.2.2.1, .int .i64 t.2.2.2.1, .int .i64 t.2.2.2.2.1, .int .i64 t.2.2.2.2.2] 75 rfl
  have B14 := B12.step0 s4
  have hW4 := hW2.step0 s4
  have iw4 := iw2.mono s4.ge
  have st4 := st2.trans0 s4
  have B31 := B3.1
  have B41 := B4.1
  have B141 := B14.1
  have hB4 := hW4.1
  have hB41 := hB4.1
  obtain ⟨h5, hh5, s5, hW5⟩ := hW4.good
  have B15 := B14.step s5 hne1
  have iw5 := iw4.mono s5.ge
  have st5 := st4.trans s5 (fun _ _ q => q)
  have B151 := B15.1
  have htx' : t.2.1 = x.1 := htx
  have hto' : t.2.2.2.2.1 = x.2.2 := hto
  rw [htx', hto'] at hh4 B4 ⊢
  simp (disch := first | omega | (simp only [e_ssz, e_psz, e_hszs, List.length_cons, List.length_nil]; try omega; done)) only [↓reduceIte, go_sem, ← hh3, ← hh4, B3.2.1, B3.2.2.1, B14.at, B14.2.1, hB4.at, hB4.2.1, hB4.2.2.1, B4.at, B4.2.1, eq_true (show ((x.2.1.length : Nat) : Int) ≤ 8 by omega), ← hh5, B15.at, B15.2.1]
  obtain ⟨-, -, hd5⟩ := drop_cons hd
  obtain ⟨n, hn⟩ : ∃ n, n = x.2.1.length := ⟨_, rfl⟩
  have hat : AtArgs x.2.1 0 (L.drop (i + 1)) q := by
    rw [hd5]
    rcases hrest with ⟨h0, rfl⟩ | ⟨h0, hr⟩
    · exact .inl ⟨h0, rfl⟩
    · exact .inr ⟨h0, hr⟩
  clear hh3 hh4 hh5 B3 B4 B31 B41 B12 B14 B141 hB4 hB41 hW4 hW2 iw2 iw4 st2 st4 s4 s5 hh1 iw1 hW1 s2 B1' B11
  obtain ⟨I, hI⟩ : ∃ I : Nat → Env → H → Prop, I = fun k σ h' => ∃ (u' : U) (j : Nat), σ 0 = .pointer (some ⟨wb, 0, none⟩) ∧ σ 3 = .pointer (some ⟨h.size, 0, none⟩) ∧ σ 37 = .int .i64 (x.2.1.length : Nat) ∧ σ 38 = .int .i64 k ∧ k ≤ x.2.1.length ∧ Step (fun b => b = wb) u h u' h' ∧ WkB u' h' wb sl L j ∧ Blk u' h' h.size [str x.1, .slice wa x.2.1.length wc, .int .i64 x.2.2] ∧ IsSl u' h' (.slice wa x.2.1.length wc) x.2.1 ∧ AtArgs x.2.1 k (L.drop j) q := ⟨_, rfl⟩
  refine wpS_loop I (fun j => x.2.1.length - j) 0 (by rw [hI]; exact ⟨u4, i + 1, by simp [upd], by simp [upd], by simp [upd], by simp [upd], by omega, st5, hW5, B15, iw5, hat⟩) ?_
  clear hW5 B15 B151 iw5 st5 hat hrest hd5 hd
  intro k σ h' hy
  rw [hI] at hy
  obtain ⟨u', j, e0, e3, e37, e38, hk, st, hWj, B, iwj, hat⟩ := hy
  have hB1 := B.1
  by_cases hlt : k < x.2.1.length
  case neg =>
    have hke : k = x.2.1.length := by omega
    rcases hat with ⟨h0, hq⟩ | ⟨h0, hr⟩
    · have hl0 : x.2.1.length = 0 := by rw [h0]; rfl
      have hK' := fun v => hK _ _ v _ st hWj hq
      simp (disch := first | omega | (simp only [e_ssz, e_psz, e_hszs, List.length_cons, List.length_nil]; try omega; done)) only [↓reduceIte, go_sem, plWAtom_L1, e3, e37, e38, eq_false (show ¬ (k : Int) < (x.2.1.length : Nat) by omega), B.at, B.2.1, eq_false (show ¬ (0 : Int) < (x.2.1.length : Nat) by omega)]
      exact hK' _
    · have hl0 : 0 < x.2.1.length := List.length_pos_iff.2 h0
      rw [List.drop_eq_nil_of_le (by omega)] at hr
      obtain ⟨c, hc, hc6⟩ := hr
      simp (disch := first | omega | (simp only [e_ssz, e_psz, e_hszs, List.length_cons, List.length_nil]; try omega; done)) only [↓reduceIte, go_sem, plWAtom_L1, e0, e3, e37, e38, eq_false (show ¬ (k : Int) < (x.2.1.length : Nat) by omega), B.at, B.2.1, eq_true (show (0 : Int) < (x.2.1.length : Nat) by omega)]
      refine effS_call (.inl ⟨rfl, u', wb, sl, L, j, c, q, by rw [hc6], hWj, hc, fun u2 h2 s2 hW2 => ⟨by simp (disch := first | omega | (simp only [e_ssz, e_psz, e_hszs, List.length_cons, List.length_nil]; try omega; done)) only [go_sem], ?_⟩⟩)
      have hK' := fun v => hK _ _ v _ (st.trans s2 (fun _ _ q => q)) hW2 (drop_cons hc).2.2
      simp (disch := first | omega | (simp only [e_ssz, e_psz, e_hszs, List.length_cons, List.length_nil]; try omega; done)) only [go_sem]
      exact hK' _
  rcases hat with ⟨h0, -⟩ | ⟨h0, hr⟩
  · rw [h0] at hlt; simp at hlt
  obtain ⟨y, hy⟩ : ∃ y, x.2.1[k]? = some y := ⟨x.2.1[k], by simp [hlt]⟩
  have hdk : x.2.1.drop k = y :: x.2.1.drop (k + 1) := by rw [List.drop_eq_getElem_cons hlt]; congr 1; rw [List.getElem?_eq_getElem hlt] at hy; exact Option.some.inj hy
  rw [hdk] at hr
  obtain ⟨s, t2, m2', hsd, hs, hT, hyt, hr2⟩ := hr
  subst hyt
  obtain ⟨-, -, hdt⟩ := drop_cons hsd
  obtain ⟨hltj, hgt, hdm⟩ := drop_cons hdt
  have hwt := hwf t2 (List.mem_of_getElem? hgt)
  have nx : ∀ (u6 : U) (h6 : H) (σ6 : Env), σ6 0 = .pointer (some ⟨wb, 0, none⟩) → σ6 3 = .pointer (some ⟨h.size, 0, none⟩) → σ6 37 = .int .i64 (x.2.1.length : Nat) → σ6 38 = .int .i64 ((k : Int) + 1) → Step (fun b => b = wb) u' h' u6 h6 → WkB u6 h6 wb sl L (j + 1 + 1) → ∃ y, I y σ6 h6 ∧ x.2.1.length - y < x.2.1.length - k := by
    intro u6 h6 σ6 g0 g3 g37 g38 s6 hW6
    refine ⟨k + 1, ?_, by omega⟩
    rw [hI]
    exact ⟨u6, j + 1 + 1, g0, g3, g37, by rw [g38]; rfl, hlt, st.trans s6 (fun _ _ q => q), hW6, B.step s6 hne1, iwj.mono s6.ge, .inr ⟨h0, by rw [hdm]; exact hr2⟩⟩
  by_cases hk0 : k = 0
  · have hs5 : tK s = 5 := by rw [hs]; simp [hk0]
    simp (disch := first | omega | (simp only [e_ssz, e_psz, e_hszs, List.length_cons, List.length_nil]; try omega; done)) only [↓reduceIte, go_sem, plWAtom_L1, e0, e37, e38, eq_true (show (k : Int) < (x.2.1.length : Nat) by omega), eq_true (show (k : Int) = 0 by omega)]
    refine effS_call (.inl ⟨rfl, u', wb, sl, L, j, s, _, by rw [hs5], hWj, hsd, fun u2 h2 s2 hW2 => ⟨by simp (disch := first | omega | (simp only [e_ssz, e_psz, e_hszs, List.length_cons, List.length_nil]; try omega; done)) only [go_sem], ?_⟩⟩)
    have B2 := B.step s2 hne1
    have B21 := B2.1
    obtain ⟨pb, po, rfl, hpb, hpu, hpz, hpr⟩ := (iwj.mono s2.ge).row k _ hy
    rw [rep_term] at hpr
    simp only [termE, sz_term, hvs_4, List.cons.injEq, and_true] at hpr hpu hpz
    obtain ⟨p0, p1, p2, p3⟩ := hpr
    simp (disch := first | omega | (simp only [e_ssz, e_psz, e_hszs, List.length_cons, List.length_nil]; try omega; done)) only [↓reduceIte, go_sem, e3, e0, B2.at, B2.2.1, hlt, p0, p1, p2, p3]
    refine effS_call (.inr ⟨rfl, u2, wb, sl, L, j + 1, t2, m2', rfl, hW2, hdt, hT, hwt, fun u6 h6 v6 s6 hW6 => ⟨by simp (disch := first | omega | (simp only [e_ssz, e_psz, e_hszs, List.length_cons, List.length_nil]; try omega; done)) only [go_sem], ?_⟩⟩)
    simp (disch := first | omega | (simp only [e_ssz, e_psz, e_hszs, List.length_cons, List.length_nil]; try omega; done)) only [↓reduceIte, go_sem, e38]
    exact nx u6 h6 _ (by simp [upd, e0]) (by simp [upd, e3]) (by simp [upd, e37]) (by simp [upd]) (s2.trans s6 (fun _ _ q => q)) hW6
  · have hs7 : tK s = 7 := by rw [hs]; simp [hk0]
    simp (disch := first | omega | (simp only [e_ssz, e_psz, e_hszs, List.length_cons, List.length_nil]; try omega; done)) only [↓reduceIte, go_sem, plWAtom_L1, e0, e37, e38, eq_true (show (k : Int) < (x.2.1.length : Nat) by omega), eq_false (show ¬ (k : Int) = 0 by omega)]
    refine effS_call (.inl ⟨rfl, u', wb, sl, L, j, s, _, by rw [hs7], hWj, hsd, fun u2 h2 s2 hW2 => ⟨by simp (disch := first | omega | (simp only [e_ssz, e_psz, e_hszs, List.length_cons, List.length_nil]; try omega; done)) only [go_sem], ?_⟩⟩)
    have B2 := B.step s2 hne1
    have B21 := B2.1
    obtain ⟨pb, po, rfl, hpb, hpu, hpz, hpr⟩ := (iwj.mono s2.ge).row k _ hy
    rw [rep_term] at hpr
    simp only [termE, sz_term, hvs_4, List.cons.injEq, and_true] at hpr hpu hpz
    obtain ⟨p0, p1, p2, p3⟩ := hpr
    simp (disch := first | omega | (simp only [e_ssz, e_psz, e_hszs, List.length_cons, List.length_nil]; try omega; done)) only [↓reduceIte, go_sem, e3, e0, B2.at, B2.2.1, hlt, p0, p1, p2, p3]
    refine effS_call (.inr ⟨rfl, u2, wb, sl, L, j + 1, t2, m2', rfl, hW2, hdt, hT, hwt, fun u6 h6 v6 s6 hW6 => ⟨by simp (disch := first | omega | (simp only [e_ssz, e_psz, e_hszs, List.length_cons, List.length_nil]; try omega; done)) only [go_sem], ?_⟩⟩)
    simp (disch := first | omega | (simp only [e_ssz, e_psz, e_hszs, List.length_cons, List.length_nil]; try omega; done)) only [↓reduceIte, go_sem, e38]
    exact nx u6 h6 _ (by simp [upd, e0]) (by simp [upd, e3]) (by simp [upd, e37]) (by simp [upd]) (s2.trans s6 (fun _ _ q => q)) hW6
end Go.Proofs.YtmnfhmbmifompaaDoor
