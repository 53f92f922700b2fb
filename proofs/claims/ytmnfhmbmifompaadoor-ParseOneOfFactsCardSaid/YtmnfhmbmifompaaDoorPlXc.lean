/- The law ParseOneOfFacts. -/
import Derived.Test.YtmnfhmbmifompaaDoorPlXb
import Derived.Test.YtmnfhmbmifompaaDoorPqI
import Derived.Test.YtmnfhmbmifompaaDoorPlV1
namespace Go.Proofs.YtmnfhmbmifompaaDoor
open Go Go.Ev Edict
def G_OneL : Ctr := fun f vs h K _ => (f = 19 ∧ C_pOneU vs h K) ∨ (f = 22 ∧ C_pFacsU vs h K) ∨ (f = 42 ∧ C_factIs vs h K) ∨ (f = 29 ∧ C_taken vs h K)
theorem G_OneL_ok : GOk Tryd.prog G_OneL := by
  rintro f vs h K KP (⟨rfl, hC⟩ | ⟨rfl, hC⟩ | ⟨rfl, hC⟩ | ⟨rfl, hC⟩)
  · exact psOneU_ok hC
  · exact psFacsU_ok hC
  · exact plFactIs_ok hC
  · exact plTaken_ok hC
def oneT : S := sS (sS (sS (sS ParseOneOfFacts_S)))
theorem one_cut : ParseOneOfFacts_S = .seq (sF ParseOneOfFacts_S) (.seq (sF (sS ParseOneOfFacts_S)) (.seq (sF (sS (sS ParseOneOfFacts_S))) (.seq (sF (sS (sS (sS ParseOneOfFacts_S)))) oneT))) := rfl
theorem ParseOneOfFacts_ok {vs : List Value} {h : H} {K : Value → H → Prop} {KP : List PanicEntry → H → Prop} (hC : C_law1 vs h K) : HCX Tryd.prog 13 vs h K KP := by
  obtain ⟨u, src, rfl, hl, hG, hK⟩ := hC
  refine ParseOneOfFacts_H G_OneL G_OneL_ok _ ?_
  rw [one_cut]
  by_cases h65 : 65000 < src.length
  · simp (disch := first | omega | (simp only [e_ssz, e_psz, e_hszs, List.length_cons, List.length_nil]; try omega; done)) only [↓reduceIte, go_sem, sF, sS, ParseOneOfFacts_S, ParseOneOfFacts_E, eq_true (show (65000 : Int) < (src.length : Nat) by omega)]
    exact hK _ _ (Step.refl _ _ _)
  simp (disch := first | omega | (simp only [e_ssz, e_psz, e_hszs, List.length_cons, List.length_nil]; try omega; done)) only [↓reduceIte, go_sem, sF, sS, ParseOneOfFacts_S, ParseOneOfFacts_E, eq_false (show ¬ (65000 : Int) < (src.length : Nat) by omega)]
  refine effS_call (.inl ⟨rfl, u, src, rfl, hl, hG, fun u1 h1 w1 s1 o1 => ⟨by simp (disch := first | omega | (simp only [e_ssz, e_psz, e_hszs, List.length_cons, List.length_nil]; try omega; done)) only [go_sem], ?_⟩⟩)
  have hof := one_of (src := src) (by omega)
  have hgc : (resFacs (src ++ 10 :: [46])).2 = (0, 0) ∨ (resFacs (src ++ 10 :: [46])).2.1 ≠ 0 := by
    rcases resFacs_cases (src ++ 10 :: [46]) with ⟨e, q, hne, -⟩ | ⟨a, q, -⟩
    · exact .inr (by rw [q]; exact hne)
    · exact .inl (by rw [q])
  obtain ⟨P, hP⟩ : ∃ P, P = resOneD src := ⟨_, rfl⟩
  obtain ⟨F, hF⟩ : ∃ F, F = resFacs (src ++ 10 :: [46]) := ⟨_, rfl⟩
  have hs2 : (P.2 = (0, 0) ∧ F = ([P.1], (0, 0))) ∨ (P.2.1 ≠ 0 ∧ (F.2.1 ≠ 0 ∨ F.1.length ≠ 1)) := by
    rw [← hF] at hof
    rw [hP]
    unfold resOneD
    rcases hof with ⟨a, e1, e2⟩ | ⟨e, e1, e2, e3⟩
    · rw [e1]; exact .inl ⟨rfl, e2⟩
    · rw [e1]; exact .inr ⟨e2, e3⟩
  rw [← hP] at o1 ⊢
  rw [← hF] at hgc
  clear hP hof
  obtain ⟨⟨pn, pl, po⟩, f⟩ := P
  simp only at o1 hs2 ⊢
  obtain ⟨a1, c1, rfl, m1, m2⟩ := o1.sl
  have hml : (pl.map constD).length = pl.length := List.length_map _
  rw [hml] at o1 m1 ⊢
  simp only [fltV]
  obtain ⟨u2, s2, B1, B2⟩ := two_new (u := u1) (h := h1) [str pn, .slice a1 pl.length c1] [.int .i64 f.1, .int .i64 0, .int .i64 f.2] 24 27
  obtain ⟨h2, hh2⟩ : ∃ h2, h2 = (h1.push (.cells #[str pn, .slice a1 pl.length c1] 24)).push (.cells #[.int .i64 f.1, .int .i64 0, .int .i64 f.2] 27) := ⟨_, rfl⟩
  rw [← hh2] at s2 B1 B2
  have i2 := o1.isSl.mono s2.ge
  have st2 := s1.trans0 s2
  simp (disch := first | omega | (simp only [e_ssz, e_psz, e_hszs, List.length_cons, List.length_nil]; try omega; done)) only [↓reduceIte, go_sem, ← hh2]
  refine ⟨by omega, effS_call (.inr (.inl ⟨rfl, u2, src ++ 10 :: [46], rfl, by simp; omega, hG.mono st2.ge, fun u3 h3 w3 s3 o3 => ⟨by simp (disch := first | omega | (simp only [e_ssz, e_psz, e_hszs, List.length_cons, List.length_nil]; try omega; done)) only [go_sem], ?_⟩⟩))⟩
  rw [← hF] at o3 ⊢
  clear hF hh2
  obtain ⟨fs, g⟩ := F
  simp only at o3 hgc hs2 ⊢
  obtain ⟨a3, c3, rfl, n1, n2⟩ := o3.sl
  simp only [fltV]
  have s4 := Step.push0 S0 u3 h3 #[.int .i64 g.1, .int .i64 0, .int .i64 g.2] 27
  have B6 := Blk.new (u := u3) (h := h3) [.int .i64 g.1, .int .i64 0, .int .i64 g.2] 27
  obtain ⟨h4, hh4⟩ : ∃ h4, h4 = h3.push (.cells #[.int .i64 g.1, .int .i64 0, .int .i64 g.2] 27) := ⟨_, rfl⟩
  obtain ⟨u4, hu4⟩ : ∃ u4, u4 = ub u3 h3.size 0 := ⟨_, rfl⟩
  have B6' : Blk u4 h4 h3.size [.int .i64 g.1, .int .i64 0, .int .i64 g.2] := by rw [hu4, hh4]; exact B6
  rw [← hh4, ← hu4] at s4
  clear B6
  have D3 := (B1.step0 s3).step0 s4
  have D4 := (B2.step0 s3).step0 s4
  have i4 := (i2.mono s3.ge).mono s4.ge
  have j4 := o3.isSl.mono s4.ge
  have st4 := (st2.trans0 s3).trans0 s4
  have x3 := D3.1
  have x4 := D4.1
  have x6 := B6'.1
  rcases hs2 with ⟨hf, hPe⟩ | ⟨hf, hno⟩
  · obtain ⟨rfl, hg⟩ := Prod.mk.inj hPe
    have hg1 : g.1 = 0 := by rw [hg]
    have hg2 : g.2 = 0 := by rw [hg]
    have hf1 : f.1 = 0 := by rw [hf]
    have hf2 : f.2 = 0 := by rw [hf]
    simp only [List.length_cons, List.length_nil, Nat.zero_add] at *
    obtain ⟨pb, qo, rfl, hpb, hpu, hpz, hpr⟩ := j4.row 0 _ rfl
    rw [rep_atom] at hpr
    obtain ⟨xv, hpr, ixv⟩ := hpr
    obtain ⟨xa, xc, rfl, -, -⟩ := ixv.sl
    simp only [sz_atom, hvs_3, List.cons.injEq, and_true, Nat.zero_mul, Nat.add_zero] at hpr hpu hpz
    obtain ⟨p0, p1, p2⟩ := hpr
    simp (disch := first | omega | (simp only [e_ssz, e_psz, e_hszs, List.length_cons, List.length_nil]; try omega; done)) only [↓reduceIte, go_sem, ← hh4, oneT, sS, ParseOneOfFacts_S, B6'.at, B6'.2.1, D3.at, D3.2.1, D4.at, D4.2.1, p0, p1, p2, eq_true hg1, eq_true hg2, eq_true hf1, eq_true hf2]
    refine effS_call (.inr (.inr (.inl ⟨rfl, u4, pn, _, _, pl, po, rfl, i4, ixv, fun u5 h5 s5 => ⟨by simp (disch := first | omega | (simp only [e_ssz, e_psz, e_hszs, List.length_cons, List.length_nil]; try omega; done)) only [go_sem], ?_⟩⟩)))
    have st5 := st4.trans0 s5
    simp (disch := first | omega | (simp only [e_ssz, e_psz, e_hszs, List.length_cons, List.length_nil]; try omega; done)) only [↓reduceIte, go_sem]
    refine effS_call (.inr (.inr (.inr ⟨rfl, u5, rfl, hG.mono st5.ge, fun u7 h7 s7 => ⟨by simp (disch := first | omega | (simp only [e_ssz, e_psz, e_hszs, List.length_cons, List.length_nil]; try omega; done)) only [go_sem], ?_⟩⟩)))
    simp (disch := first | omega | (simp only [e_ssz, e_psz, e_hszs, List.length_cons, List.length_nil]; try omega; done)) only [↓reduceIte, go_sem]
    exact hK _ _ (st5.trans0 s7)
  · have fin : ∀ (u' : U) (h' : H), Step S0 u4 h4 u' h' → K (.bool true) h' := fun u' h' s' => hK _ _ (st4.trans0 s')
    by_cases hg : g.1 = 0
    · have hg2 : g.2 = 0 := by rw [hgc.resolve_right (fun q => q hg)]
      have hcl : fs.length ≠ 1 := hno.resolve_left (fun q => q hg)
      simp (disch := first | omega | (simp only [e_ssz, e_psz, e_hszs, List.length_cons, List.length_nil]; try omega; done)) only [↓reduceIte, go_sem, ← hh4, oneT, sS, ParseOneOfFacts_S, B6'.at, B6'.2.1, D3.at, D4.at, D4.2.1, eq_true hg, eq_true hg2, eq_false (show ¬ ((fs.length : Nat) : Int) = 1 by omega), eq_false hf]
      refine effS_call (.inr (.inr (.inr ⟨rfl, u4, rfl, hG.mono st4.ge, fun u7 h7 s7 => ⟨by simp (disch := first | omega | (simp only [e_ssz, e_psz, e_hszs, List.length_cons, List.length_nil]; try omega; done)) only [go_sem], ?_⟩⟩)))
      simp (disch := first | omega | (simp only [e_ssz, e_psz, e_hszs, List.length_cons, List.length_nil]; try omega; done)) only [↓reduceIte, go_sem]
      exact fin _ _ s7
    · simp (disch := first | omega | (simp only [e_ssz, e_psz, e_hszs, List.length_cons, List.length_nil]; try omega; done)) only [↓reduceIte, go_sem, ← hh4, oneT, sS, ParseOneOfFacts_S, B6'.at, B6'.2.1, D3.at, D4.at, D4.2.1, eq_false hg, eq_false hf]
      refine effS_call (.inr (.inr (.inr ⟨rfl, u4, rfl, hG.mono st4.ge, fun u7 h7 s7 => ⟨by simp (disch := first | omega | (simp only [e_ssz, e_psz, e_hszs, List.length_cons, List.length_nil]; try omega; done)) only [go_sem], ?_⟩⟩)))
      simp (disch := first | omega | (simp only [e_ssz, e_psz, e_hszs, List.length_cons, List.length_nil]; try omega; done)) only [↓reduceIte, go_sem]
      exact fin _ _ s7
theorem ParseOneOfFacts_hc {s : List UInt8} {h : H} (hl : s.length ≤ 9223372036854775807) (hG : LxG (hsz h) h) : HCX Tryd.prog 13 [str s] h (fun v h' => v = .bool true ∧ Ext0 h h') fun _ _ => False :=
  ParseOneOfFacts_ok ⟨hsz h, s, rfl, hl, hG, fun u' h' st => ⟨rfl, st.ext⟩⟩
end Go.Proofs.YtmnfhmbmifompaaDoor
