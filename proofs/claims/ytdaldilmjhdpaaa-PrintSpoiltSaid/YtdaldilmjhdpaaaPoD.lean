/- PrintSpoilt: literal, body. -/
import Derived.Test.YtdaldilmjhdpaaaPoC
namespace Edict
def litMk (x : Literal) : Literal :=
  if x.1 % 3 = 0 then (3, zA, 1 + x.2.2.1 % 6, trmM x.2.2.2.1, trmM x.2.2.2.2.1, x.2.2.2.2.2)
  else if x.1 % 3 = 1 then (1, madM x.2.1, 0, zT, zT, x.2.2.2.2.2)
  else (2, madM x.2.1, 0, zT, zT, x.2.2.2.2.2)
end Edict
namespace Go.Proofs.Ytdaldilmjhdpaaa
open Go Go.Ev Edict
def LitS (x : Literal) : Prop := AtomS x.2.1 ∧ x.2.2.2.1.2.2.1.length ≤ 9223372036854775807 ∧ x.2.2.2.2.1.2.2.1.length ≤ 9223372036854775807
def C_poLit (vs : List Value) (h : H) (K : Value → H → Prop) : Prop := ∃ (u : U) (x : Literal) (l : List Value), vs = [.agg l.toArray] ∧ Rep.rep u h x l ∧ LitS x ∧ ∀ u' h' l', Step S0 u h u' h' → Rep.rep u' h' (litMk x) l' → K (.agg l'.toArray) h'
def G_poLit : Ctr := fun f vs h K _ => (f = 7 ∧ C_poMod vs h K) ∨ (f = 12 ∧ C_poTerm vs h K) ∨ (f = 4 ∧ C_poMade vs h K)
theorem G_poLit_ok : GOk Try.prog G_poLit := by
  rintro f vs h K KP (⟨rfl, hC⟩ | ⟨rfl, hC⟩ | ⟨rfl, hC⟩)
  · exact poMod_ok hC
  · exact poTerm_ok hC
  · exact poMade_ok hC
theorem poLit_ok {vs : List Value} {h : H} {K : Value → H → Prop} {KP : List PanicEntry → H → Prop} (hC : C_poLit vs h K) : HCX Try.prog 26 vs h K KP := by
  obtain ⟨u, x, l, rfl, hr, ⟨hA, hT1, hT2⟩, hK⟩ := hC
  rw [rep_literal] at hr
  obtain ⟨v, hl, hv⟩ := hr
  simp only [Term.enc, List.cons_append, List.nil_append] at hl
  subst hl
  obtain ⟨va, vc, rfl, -, -⟩ := hv.sl
  have hm := mlenP
  refine poLit_H G_poLit G_poLit_ok _ ?_
  obtain ⟨CS, hCS⟩ : ∃ CS : List Value, CS = [.int .i64 x.1, str x.2.1.1, .slice va x.2.1.2.1.length vc, .int .i64 x.2.1.2.2, .int .i64 x.2.2.1, .int .i64 x.2.2.2.1.1, .int .i64 x.2.2.2.1.2.1, str x.2.2.2.1.2.2.1, .int .i64 x.2.2.2.1.2.2.2, .int .i64 x.2.2.2.2.1.1, .int .i64 x.2.2.2.2.1.2.1, str x.2.2.2.2.1.2.2.1, .int .i64 x.2.2.2.2.1.2.2.2, .int .i64 x.2.2.2.2.2] := ⟨_, rfl⟩
  have s1 := Step.push0 S0 u h CS.toArray 49
  have A := Blk.new (u := u) (h := h) CS 49
  obtain ⟨u1, hu1⟩ : ∃ u1, u1 = ub u h.size 0 := ⟨_, rfl⟩
  obtain ⟨h1, hh1⟩ : ∃ h1, h1 = h.push (.cells CS.toArray 49) := ⟨_, rfl⟩
  have hs1 : h1.size = h.size + 1 := by rw [hh1]; simp only [e_psz]
  rw [← hu1, ← hh1] at s1 A
  have s2 := Step.push0 S0 u1 h1 #[.int .i64 0, str [], .slice none 0 0, .int .i64 0, .int .i64 0, .int .i64 0, .int .i64 0, str [], .int .i64 0, .int .i64 0, .int .i64 0, str [], .int .i64 0, .int .i64 0] 49
  have B := Blk.new (u := u1) (h := h1) [.int .i64 0, str [], .slice none 0 0, .int .i64 0, .int .i64 0, .int .i64 0, .int .i64 0, str [], .int .i64 0, .int .i64 0, .int .i64 0, str [], .int .i64 0, .int .i64 0] 49
  have A2 := A.step0 s2
  have st := s1.trans0 s2
  rw [hs1] at B st A2
  rw [hCS] at hh1 A2
  have hv2 := hv.mono st.ge
  simp (disch := first | omega | (simp only [e_ssz, e_psz, e_hszs, List.length_cons, List.length_nil]; try omega; done)) only [↓reduceIte, go_sem, poLit_S, poLit_E]
  rw [← hh1]
  generalize ub u1 (h.size + 1) 0 = u2 at B A2 st hv2
  generalize h1.push (.cells #[.int .i64 0, str [], .slice none 0 0, .int .i64 0, .int .i64 0, .int .i64 0, .int .i64 0, str [], .int .i64 0, .int .i64 0, .int .i64 0, str [], .int .i64 0, .int .i64 0] 49) = h2 at B A2 st hv2 ⊢
  have a2 := A2.1
  have b := B.1
  refine effS_call (.inl ⟨rfl, x.1, 3, rfl, by decide, by decide, ⟨by simp (disch := first | omega | (simp only [e_ssz, e_psz, e_hszs, List.length_cons, List.length_nil]; try omega; done)) only [go_sem], ?_⟩⟩)
  unfold litMk at hK
  have fin : ∀ (u3 : U) (h3 : H) (l : List Value), Step S0 u2 h2 u3 h3 → l.length = 14 → ∃ u4, Step S0 u h u4 (hsets h3 (h.size + 1) 0 l) ∧ Blk u4 (hsets h3 (h.size + 1) 0 l) (h.size + 1) l ∧ Ge u3 h3 u4 (hsets h3 (h.size + 1) 0 l) := fun u3 h3 l s3 hl => by
    have B3 := B.step0 s3
    have sw := B3.stepSets (l := l) (by rw [hl]; rfl)
    exact ⟨u3, (st.trans0 s3).own sw (fun j e => by have e : j = h.size + 1 := e; omega), B3.sets (by rw [hl]; rfl), sw.ge⟩
  by_cases h3 : x.1 % 3 = 0
  · simp only [if_pos h3] at hK
    simp (disch := first | omega | (simp only [e_ssz, e_psz, e_hszs, List.length_cons, List.length_nil]; try omega; done)) only [↓reduceIte, go_sem, eq_true h3, A2.at, A2.2.1]
    refine effS_call (.inl ⟨rfl, x.2.2.1, 6, rfl, by decide, by decide, ⟨by simp (disch := first | omega | (simp only [e_ssz, e_psz, e_hszs, List.length_cons, List.length_nil]; try omega; done)) only [↓reduceIte, go_sem, A2.at, A2.2.1], ?_⟩⟩)
    have h0 : 0 ≤ x.2.2.1 % 6 := by omega
    have h6 : x.2.2.1 % 6 < 6 := by omega
    simp (disch := first | omega | (simp only [e_ssz, e_psz, e_hszs, List.length_cons, List.length_nil]; try omega; done)) only [↓reduceIte, go_sem]
    refine effS_call (.inr (.inl ⟨rfl, u2, x.2.2.2.1, rfl, hT1, fun u3 h3' s3 => ?_⟩))
    have A3 := A2.step0 s3
    have a3 := A3.1
    refine ⟨by simp (disch := first | omega | (simp only [e_ssz, e_psz, e_hszs, List.length_cons, List.length_nil]; try omega; done)) only [↓reduceIte, go_sem, A2.at, A3.at, A3.2.1], ?_⟩
    simp only [Term.enc]
    simp (disch := first | omega | (simp only [e_ssz, e_psz, e_hszs, List.length_cons, List.length_nil]; try omega; done)) only [↓reduceIte, go_sem]
    refine effS_call (.inr (.inl ⟨rfl, u3, x.2.2.2.2.1, rfl, hT2, fun u4 h4' s4 => ?_⟩))
    have A4 := A3.step0 s4
    have s34 := s3.trans0 s4
    have B4 := B.step0 s34
    have a4 := A4.1
    have b4 := B4.1
    refine ⟨by simp (disch := first | omega | (simp only [e_ssz, e_psz, e_hszs, List.length_cons, List.length_nil]; try omega; done)) only [↓reduceIte, go_sem, A3.at, A4.at, A4.2.1], ?_⟩
    simp only [Term.enc]
    obtain ⟨u5, s5, E, g5⟩ := fin u4 h4' [.int .i64 3, str [], .slice none 0 0, .int .i64 0, .int .i64 (1 + x.2.2.1 % 6), .int .i64 (trmM x.2.2.2.1).1, .int .i64 (trmM x.2.2.2.1).2.1, str (trmM x.2.2.2.1).2.2.1, .int .i64 (trmM x.2.2.2.1).2.2.2, .int .i64 (trmM x.2.2.2.2.1).1, .int .i64 (trmM x.2.2.2.2.1).2.1, str (trmM x.2.2.2.2.1).2.2.1, .int .i64 (trmM x.2.2.2.2.1).2.2.2, .int .i64 x.2.2.2.2.2] s34 rfl
    simp (disch := first | omega | (simp only [e_ssz, e_psz, e_hszs, List.length_cons, List.length_nil]; try omega; done)) only [↓reduceIte, go_sem, B4.2.1, B4.2.2.1, hsets_hsz, E.at]
    exact hK _ _ [_, _, _, _, _, _, _, _, _, _, _, _, _, _] s5 (by rw [rep_literal]; exact ⟨_, rfl, IsSl.nil _ _⟩)
  · by_cases h4 : x.1 % 3 = 1
    · simp only [if_neg h3, if_pos h4] at hK
      simp (disch := first | omega | (simp only [e_ssz, e_psz, e_hszs, List.length_cons, List.length_nil]; try omega; done)) only [↓reduceIte, go_sem, eq_false h3, eq_true h4, A2.at, A2.2.1]
      refine effS_call (.inr (.inr ⟨rfl, u2, x.2.1, [str x.2.1.1, .slice va x.2.1.2.1.length vc, .int .i64 x.2.1.2.2], rfl, by rw [rep_atom]; exact ⟨_, rfl, hv2⟩, hA, fun u3 h3' v3 s3 o3 => ?_⟩))
      have A3 := A2.step0 s3
      have B3 := B.step0 s3
      have a3 := A3.1
      have b3 := B3.1
      refine ⟨by simp (disch := first | omega | (simp only [e_ssz, e_psz, e_hszs, List.length_cons, List.length_nil]; try omega; done)) only [↓reduceIte, go_sem, A2.at, A3.at, A3.2.1], ?_⟩
      have i3 := o3.isSl
      obtain ⟨xa, xc, rfl, -, -⟩ := o3.sl
      obtain ⟨u4, s4, E, g4⟩ := fin u3 h3' [.int .i64 1, str (madM x.2.1).1, .slice xa (madM x.2.1).2.1.length xc, .int .i64 x.2.1.2.2, .int .i64 0, .int .i64 0, .int .i64 0, str [], .int .i64 0, .int .i64 0, .int .i64 0, str [], .int .i64 0, .int .i64 x.2.2.2.2.2] s3 rfl
      simp (disch := first | omega | (simp only [e_ssz, e_psz, e_hszs, List.length_cons, List.length_nil]; try omega; done)) only [↓reduceIte, go_sem, B3.2.1, B3.2.2.1, hsets_hsz, E.at]
      exact hK _ _ [_, _, _, _, _, _, _, _, _, _, _, _, _, _] s4 (by rw [rep_literal]; exact ⟨_, rfl, i3.mono g4⟩)
    · simp only [if_neg h3, if_neg h4] at hK
      simp (disch := first | omega | (simp only [e_ssz, e_psz, e_hszs, List.length_cons, List.length_nil]; try omega; done)) only [↓reduceIte, go_sem, eq_false h3, eq_false h4, A2.at, A2.2.1]
      refine effS_call (.inr (.inr ⟨rfl, u2, x.2.1, [str x.2.1.1, .slice va x.2.1.2.1.length vc, .int .i64 x.2.1.2.2], rfl, by rw [rep_atom]; exact ⟨_, rfl, hv2⟩, hA, fun u3 h3' v3 s3 o3 => ?_⟩))
      have A3 := A2.step0 s3
      have B3 := B.step0 s3
      have a3 := A3.1
      have b3 := B3.1
      refine ⟨by simp (disch := first | omega | (simp only [e_ssz, e_psz, e_hszs, List.length_cons, List.length_nil]; try omega; done)) only [↓reduceIte, go_sem, A2.at, A3.at, A3.2.1], ?_⟩
      have i3 := o3.isSl
      obtain ⟨xa, xc, rfl, -, -⟩ := o3.sl
      obtain ⟨u4, s4, E, g4⟩ := fin u3 h3' [.int .i64 2, str (madM x.2.1).1, .slice xa (madM x.2.1).2.1.length xc, .int .i64 x.2.1.2.2, .int .i64 0, .int .i64 0, .int .i64 0, str [], .int .i64 0, .int .i64 0, .int .i64 0, str [], .int .i64 0, .int .i64 x.2.2.2.2.2] s3 rfl
      simp (disch := first | omega | (simp only [e_ssz, e_psz, e_hszs, List.length_cons, List.length_nil]; try omega; done)) only [↓reduceIte, go_sem, B3.2.1, B3.2.2.1, hsets_hsz, E.at]
      exact hK _ _ [_, _, _, _, _, _, _, _, _, _, _, _, _, _] s4 (by rw [rep_literal]; exact ⟨_, rfl, i3.mono g4⟩)
def C_poBody (vs : List Value) (h : H) (K : Value → H → Prop) : Prop := ∃ (u : U) (v : Value) (l : List Literal), vs = [v] ∧ IsSl u h v l ∧ (∀ x ∈ l, LitS x) ∧ ∀ u' h' v', Step S0 u h u' h' → IsSl u' h' v' ((l.take 16).map litMk) → K v' h'
def G_poBody : Ctr := fun f vs h K _ => f = 26 ∧ C_poLit vs h K
theorem G_poBody_ok : GOk Try.prog G_poBody := by
  rintro f vs h K KP ⟨rfl, hC⟩; exact poLit_ok hC
theorem poBody_ok {vs : List Value} {h : H} {K : Value → H → Prop} {KP : List PanicEntry → H → Prop} (hC : C_poBody vs h K) : HCX Try.prog 15 vs h K KP := by
  obtain ⟨u, v, l, rfl, hl, hS, hK⟩ := hC
  obtain ⟨la, lc, rfl, q1, q2⟩ := hl.sl
  have hm := mlenP
  refine poBody_H G_poBody G_poBody_ok _ ?_
  simp (disch := first | omega | (simp only [e_ssz, e_psz, e_hszs, List.length_cons, List.length_nil]; try omega; done)) only [go_sem, poBody_S, poBody_E]
  obtain ⟨I, hI⟩ : ∃ I : Nat → Env → H → Prop, I = fun i σ h' => σ 0 = .slice la l.length lc ∧ σ 4 = .int .i64 i ∧ i ≤ l.length ∧ i ≤ 16 ∧
    ∃ (u' : U) (vA : Value), σ 3 = vA ∧ Step S0 u h u' h' ∧ Own h.size u' h' vA ((l.take i).map litMk) ∧ IsSl u' h' (.slice la l.length lc) l := ⟨_, rfl⟩
  refine wpS_loop I (fun i => l.length - i) 0 (by rw [hI]; exact ⟨by simp [upd], by simp [upd], Nat.zero_le _, Nat.zero_le _, u, .slice none 0 0, by simp [upd], .refl _ _ _, .nil _ _ _, hl⟩) ?_
  clear hl
  intro i σ h1 hy
  rw [hI] at hy
  obtain ⟨e0, e4, hi, hi16, u1, vA, e3, st, oA, hl⟩ := hy
  have hz := st.ge.sz
  by_cases hlt : i < l.length ∧ i < 16
  · obtain ⟨x, hs⟩ : ∃ x, l[i]? = some x := ⟨l[i]'hlt.1, by simp [hlt.1]⟩
    have htk : (l.take (i + 1)).map litMk = (l.take i).map litMk ++ [litMk x] := by rw [List.take_add_one, hs]; simp
    have hlk : ((l.take i).map litMk).length = i := by rw [List.length_map, List.length_take]; omega
    have hlk2 := hl
    obtain ⟨pb, po, rfl, hpb, hpu, hpz, hpr⟩ := hl.row i x hs
    have hprs := hpr
    rw [rep_literal] at hpr
    obtain ⟨pv, hpr, hpv⟩ := hpr
    obtain ⟨pva, pvc, rfl, -, -⟩ := hpv.sl
    rw [hpr] at hprs
    simp only [Term.enc, sz_literal, hvs_14, List.cons_append, List.nil_append, List.cons.injEq, and_true] at hpr hpu hpz hprs
    obtain ⟨l0, l1, l2, l3, l4, l5, l6, l7, l8, l9, l10, l11, l12, l13⟩ := hpr
    simp (disch := first | omega | (simp only [e_ssz, e_psz, e_hszs, List.length_cons, List.length_nil]; try omega; done)) only [↓reduceIte, go_sem, poBody_L1, e0, e4, hlt.1, eq_true (show (i : Int) < 16 by omega), l0, l1, l2, l3, l4, l5, l6, l7, l8, l9, l10, l11, l12, l13]
    refine effS_call ⟨rfl, u1, x, _, rfl, hprs, hS x (List.mem_of_getElem? hs), fun u2 h2 l2 s2 hr2 => ⟨by simp (disch := first | omega | (simp only [e_ssz, e_psz, e_hszs, List.length_cons, List.length_nil]; try omega; done)) only [go_sem], ?_⟩⟩
    have hrk := hr2
    rw [rep_literal] at hr2
    obtain ⟨v2, hl2, hv2⟩ := hr2
    simp only [Term.enc, List.cons_append, List.nil_append] at hl2
    subst hl2
    obtain ⟨wa, wc, rfl, -, -⟩ := hv2.sl
    have hz2 := s2.ge.sz
    simp (disch := first | omega | (simp only [e_ssz, e_psz, e_hszs, List.length_cons, List.length_nil]; try omega; done)) only [↓reduceIte, go_sem, e3]
    refine effS_app1o rfl (oA.step0 s2) (x := litMk x) hrk rfl rfl (by omega) (by rw [hlk]; omega) fun a3 n3 c3 u3 h3 o3 s3 b3' => ⟨by simp (disch := first | omega | (simp only [e_ssz, e_psz, e_hszs, List.length_cons, List.length_nil]; try omega; done)) only [go_sem], ?_⟩
    simp (disch := first | omega | (simp only [e_ssz, e_psz, e_hszs, List.length_cons, List.length_nil]; try omega; done)) only [↓reduceIte, go_sem, e4]
    refine ⟨i + 1, ?_, by omega⟩
    rw [hI]
    exact ⟨by simp [upd, e0], by simp [upd], hlt.1, hlt.2, u3, .slice a3 n3 c3, by simp [upd], (st.trans0 s2).own s3 (fun j hj => oA.ge hj), by rw [htk]; exact o3, (hlk2.mono s2.ge).mono s3.ge⟩
  · have htk : l.take i = l.take 16 := by
      by_cases hll : i < l.length
      · rw [show i = 16 by omega]
      · rw [List.take_of_length_le (by omega), List.take_of_length_le (by omega)]
    rw [htk] at oA
    by_cases hll : i < l.length
    · simp (disch := first | omega | (simp only [e_ssz, e_psz, e_hszs, List.length_cons, List.length_nil]; try omega; done)) only [↓reduceIte, go_sem, poBody_L1, e0, e3, e4, hll, eq_false (show ¬ (i : Int) < 16 by omega)]
      exact hK _ _ _ st oA.isSl
    · simp (disch := first | omega | (simp only [e_ssz, e_psz, e_hszs, List.length_cons, List.length_nil]; try omega; done)) only [↓reduceIte, go_sem, poBody_L1, e0, e3, e4, eq_false hll]
      exact hK _ _ _ st oA.isSl
end Go.Proofs.Ytdaldilmjhdpaaa
