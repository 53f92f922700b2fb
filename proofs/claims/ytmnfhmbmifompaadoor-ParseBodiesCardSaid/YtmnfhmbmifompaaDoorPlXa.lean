/- The law ParseBodies. -/
import Derived.Test.YtmnfhmbmifompaaDoorPlX
import Derived.Test.YtmnfhmbmifompaaDoorPlG
import Derived.Test.YtmnfhmbmifompaaDoorPqH
import Derived.Test.YtmnfhmbmifompaaDoorPlV3
namespace Go.Proofs.YtmnfhmbmifompaaDoor
open Go Go.Ev Edict
def C_pQryV (vs : List Value) (h : H) (K : Value → H → Prop) : Prop := ∃ (u : U) (src : List UInt8), vs = [str src] ∧ src.length ≤ 9223372036854775807 ∧ LxG u h ∧ ∀ u' h' w, Step S0 u h u' h' → Own h.size u' h' w (resQry src).1 → K (.tuple #[w, fltV (resQry src).2]) h'
theorem psQryV_ok {vs : List Value} {h : H} {K : Value → H → Prop} {KP : List PanicEntry → H → Prop} (hC : C_pQryV vs h K) : HCX Tryd.prog 36 vs h K KP := by
  obtain ⟨u, src, rfl, hl, hG, hK⟩ := hC
  refine psQuery_ok ⟨u, src, rfl, hl, hG, fun e he u' h' s => ?_, fun a ha u' h' w s o => ?_⟩
  · have hr : resQry src = ([], e) := by unfold resQry; rw [he]
    rw [hr] at hK
    exact hK u' h' _ s (.nil _ _ _)
  · have hr : resQry src = (a, (0, 0)) := by unfold resQry; rw [ha]
    rw [hr] at hK
    exact hK u' h' _ s o
def G_BodL : Ctr := fun f vs h K _ => (f = 36 ∧ C_pQryV vs h K) ∨ (f = 28 ∧ C_pProgU vs h K) ∨ (f = 38 ∧ C_shBody vs h K) ∨ (f = 37 ∧ C_sBody vs h K) ∨ (f = 29 ∧ C_taken vs h K)
theorem G_BodL_ok : GOk Tryd.prog G_BodL := by
  rintro f vs h K KP (⟨rfl, hC⟩ | ⟨rfl, hC⟩ | ⟨rfl, hC⟩ | ⟨rfl, hC⟩ | ⟨rfl, hC⟩)
  · exact psQryV_ok hC
  · exact psProgU_ok hC
  · exact plShiftBody_ok hC
  · exact plSameBody_ok hC
  · exact plTaken_ok hC
def bodT : S := sS (sS (sS (sS ParseBodies_S)))
theorem bod_cut : ParseBodies_S = .seq (sF ParseBodies_S) (.seq (sF (sS ParseBodies_S)) (.seq (sF (sS (sS ParseBodies_S))) (.seq (sF (sS (sS (sS ParseBodies_S)))) bodT))) := rfl
theorem ParseBodies_ok {vs : List Value} {h : H} {K : Value → H → Prop} {KP : List PanicEntry → H → Prop} (hC : C_law1 vs h K) : HCX Tryd.prog 8 vs h K KP := by
  obtain ⟨u, src, rfl, hl, hG, hK⟩ := hC
  refine ParseBodies_H G_BodL G_BodL_ok _ ?_
  rw [bod_cut]
  by_cases h65 : 65000 < src.length
  · simp (disch := first | omega | (simp only [e_ssz, e_psz, e_hszs, List.length_cons, List.length_nil]; try omega; done)) only [↓reduceIte, go_sem, sF, sS, ParseBodies_S, ParseBodies_E, eq_true (show (65000 : Int) < (src.length : Nat) by omega)]
    exact hK _ _ (Step.refl _ _ _)
  simp (disch := first | omega | (simp only [e_ssz, e_psz, e_hszs, List.length_cons, List.length_nil]; try omega; done)) only [↓reduceIte, go_sem, sF, sS, ParseBodies_S, ParseBodies_E, eq_false (show ¬ (65000 : Int) < (src.length : Nat) by omega)]
  refine effS_call (.inl ⟨rfl, u, src, rfl, hl, hG, fun u1 h1 w1 s1 o1 => ⟨by simp (disch := first | omega | (simp only [e_ssz, e_psz, e_hszs, List.length_cons, List.length_nil]; try omega; done)) only [go_sem], ?_⟩⟩)
  have hsame := body_same (src := src) (by omega)
  have hoff := qry_off src
  have hgc : (resProg ([104, 58, 45] ++ 10 :: src)).2 = (0, 0) ∨ (resProg ([104, 58, 45] ++ 10 :: src)).2.1 ≠ 0 := by
    rcases resProg_cases ([104, 58, 45] ++ 10 :: src) with ⟨e, q, hne, -⟩ | ⟨a, q, -⟩
    · exact .inr (by rw [q]; exact hne)
    · exact .inl (by rw [q])
  obtain ⟨Q, hQ⟩ : ∃ Q, Q = resQry src := ⟨_, rfl⟩
  obtain ⟨P, hP⟩ : ∃ P, P = resProg ([104, 58, 45] ++ 10 :: src) := ⟨_, rfl⟩
  rw [← hQ] at o1 hsame hoff
  rw [← hP] at hsame hgc
  rw [← hQ]
  clear hQ
  obtain ⟨ls, f⟩ := Q
  simp only at o1 hsame hoff ⊢
  obtain ⟨a1, c1, rfl, m1, m2⟩ := o1.sl
  simp only [fltV]
  have s2 := Step.push0 S0 u1 h1 #[.int .i64 f.1, .int .i64 0, .int .i64 f.2] 27
  have B4 := Blk.new (u := u1) (h := h1) [.int .i64 f.1, .int .i64 0, .int .i64 f.2] 27
  obtain ⟨h2, hh2⟩ : ∃ h2, h2 = h1.push (.cells #[.int .i64 f.1, .int .i64 0, .int .i64 f.2] 27) := ⟨_, rfl⟩
  obtain ⟨u2, hu2⟩ : ∃ u2, u2 = ub u1 h1.size 0 := ⟨_, rfl⟩
  have B4' : Blk u2 h2 h1.size [.int .i64 f.1, .int .i64 0, .int .i64 f.2] := by rw [hu2, hh2]; exact B4
  rw [← hh2, ← hu2] at s2
  clear B4
  have st2 := s1.trans0 s2
  have i2 := o1.isSl.mono s2.ge
  simp (disch := first | omega | (simp only [e_ssz, e_psz, e_hszs, List.length_cons, List.length_nil]; try omega; done)) only [↓reduceIte, go_sem, ← hh2]
  refine ⟨by omega, effS_call (.inr (.inl ⟨rfl, u2, [104, 58, 45] ++ 10 :: src, rfl, by simp; omega, hG.mono st2.ge, fun u3 h3 w3 s3 o3 => ⟨by simp (disch := first | omega | (simp only [e_ssz, e_psz, e_hszs, List.length_cons, List.length_nil]; try omega; done)) only [go_sem], ?_⟩⟩))⟩
  rw [← hP] at o3 ⊢
  clear hP
  obtain ⟨cs, g⟩ := P
  simp only at o3 hsame hgc ⊢
  obtain ⟨a3, c3, rfl, n1, n2⟩ := o3.sl
  simp only [fltV]
  obtain ⟨u4, s4, B5, B6⟩ := two_new (u := u3) (h := h3) [.slice a3 cs.length c3] [.int .i64 g.1, .int .i64 0, .int .i64 g.2] 60 27
  obtain ⟨h4, hh4⟩ : ∃ h4, h4 = (h3.push (.cells #[.slice a3 cs.length c3] 60)).push (.cells #[.int .i64 g.1, .int .i64 0, .int .i64 g.2] 27) := ⟨_, rfl⟩
  rw [← hh4] at s4 B5 B6
  have st4 := (st2.trans0 s3).trans0 s4
  have D4 := (B4'.step0 s3).step0 s4
  have i4 := (i2.mono s3.ge).mono s4.ge
  have j4 := o3.isSl.mono s4.ge
  have B51 := B5.1
  have B61 := B6.1
  have D41 := D4.1
  rcases hsame with ⟨hf, hne, hPe⟩ | ⟨hf, hno⟩
  · obtain ⟨rfl, hg⟩ := Prod.mk.inj hPe
    have hg1 : g.1 = 0 := by rw [hg]
    have hg2 : g.2 = 0 := by rw [hg]
    have hf1 : f.1 = 0 := by rw [hf]
    have hf2 : f.2 = 0 := by rw [hf]
    have hbl : 0 < (ls.map (shL 4)).length := by
      rw [List.length_map]
      cases ls with
      | nil => exact absurd rfl hne
      | cons _ _ => simp
    obtain ⟨bl, hble⟩ : ∃ bl, bl = ls.map (shL 4) := ⟨_, rfl⟩
    rw [← hble] at hbl o3 j4
    rw [← hble] at hPe
    simp only [List.length_cons, List.length_nil, Nat.zero_add] at *
    obtain ⟨pb, po, rfl, hpb, hpu, hpz, hpr⟩ := j4.row 0 _ rfl
    rw [rep_clause] at hpr
    obtain ⟨xv, xb, hpr, ixv, ixb⟩ := hpr
    obtain ⟨ba, bc, rfl, -, -⟩ := ixb.sl
    simp only [sz_clause, hvs_4, List.cons.injEq, and_true, Nat.zero_mul, Nat.add_zero] at hpr hpu hpz
    obtain ⟨p0, p1, p2, p3⟩ := hpr
    simp (disch := first | omega | (simp only [e_ssz, e_psz, e_hszs, List.length_cons, List.length_nil]; try omega; done)) only [↓reduceIte, go_sem, ← hh4, bodT, sS, ParseBodies_S, B5.at, B5.2.1, B6.at, B6.2.1, D4.at, D4.2.1, p3, eq_true hg1, eq_true hg2, eq_true hf1, eq_true hf2, eq_true (show (0 : Int) < (bl.length : Nat) by omega)]
    refine effS_call (.inr (.inr (.inl ⟨rfl, u4, _, ls, 4, rfl, i4, hoff, by omega, fun u5 h5 w5 s5 o5 => ⟨by
      have X5 := B5.step0 s5
      have X51 := X5.1
      simp (disch := first | omega | (simp only [e_ssz, e_psz, e_hszs, List.length_cons, List.length_nil]; try omega; done)) only [↓reduceIte, go_sem, (s5.ge.hs pb hpb).1, s5.ge.cl pb hpb (po + 3) (by omega), X5.at, X5.2.1, B5.at], ?_⟩⟩)))
    rw [← hble] at o5
    have ixb5 := ixb.mono s5.ge
    obtain ⟨a5, c5, rfl, -, -⟩ := o5.sl
    simp (disch := first | omega | (simp only [e_ssz, e_psz, e_hszs, List.length_cons, List.length_nil]; try omega; done)) only [↓reduceIte, go_sem]
    refine effS_call (.inr (.inr (.inr (.inl ⟨rfl, u5, _, _, bl, rfl, ixb5, o5.isSl, fun u6 h6 s6 => ⟨by simp (disch := first | omega | (simp only [e_ssz, e_psz, e_hszs, List.length_cons, List.length_nil]; try omega; done)) only [go_sem], ?_⟩⟩))))
    have st6 := (st4.trans0 s5).trans0 s6
    simp (disch := first | omega | (simp only [e_ssz, e_psz, e_hszs, List.length_cons, List.length_nil]; try omega; done)) only [↓reduceIte, go_sem]
    refine effS_call (.inr (.inr (.inr (.inr ⟨rfl, u6, rfl, hG.mono st6.ge, fun u7 h7 s7 => ⟨by simp (disch := first | omega | (simp only [e_ssz, e_psz, e_hszs, List.length_cons, List.length_nil]; try omega; done)) only [go_sem], ?_⟩⟩))))
    simp (disch := first | omega | (simp only [e_ssz, e_psz, e_hszs, List.length_cons, List.length_nil]; try omega; done)) only [↓reduceIte, go_sem]
    exact hK _ _ (st6.trans0 s7)
  · have fin : ∀ (u' : U) (h' : H), Step S0 u4 h4 u' h' → K (.bool true) h' := fun u' h' s' => hK _ _ (st4.trans0 s')
    by_cases hg : g.1 = 0
    · have hg2 : g.2 = 0 := by rw [hgc.resolve_right (fun q => q hg)]
      have hcl : cs.length ≠ 1 := hno.resolve_left (fun q => q hg)
      simp (disch := first | omega | (simp only [e_ssz, e_psz, e_hszs, List.length_cons, List.length_nil]; try omega; done)) only [↓reduceIte, go_sem, ← hh4, bodT, sS, ParseBodies_S, B5.at, B5.2.1, B6.at, B6.2.1, D4.at, D4.2.1, eq_true hg, eq_true hg2, eq_false (show ¬ ((cs.length : Nat) : Int) = 1 by omega), eq_false hf]
      refine effS_call (.inr (.inr (.inr (.inr ⟨rfl, u4, rfl, hG.mono st4.ge, fun u7 h7 s7 => ⟨by simp (disch := first | omega | (simp only [e_ssz, e_psz, e_hszs, List.length_cons, List.length_nil]; try omega; done)) only [go_sem], ?_⟩⟩))))
      simp (disch := first | omega | (simp only [e_ssz, e_psz, e_hszs, List.length_cons, List.length_nil]; try omega; done)) only [↓reduceIte, go_sem]
      exact fin _ _ s7
    · simp (disch := first | omega | (simp only [e_ssz, e_psz, e_hszs, List.length_cons, List.length_nil]; try omega; done)) only [↓reduceIte, go_sem, ← hh4, bodT, sS, ParseBodies_S, B5.at, B6.at, B6.2.1, D4.at, D4.2.1, eq_false hg, eq_false hf]
      refine effS_call (.inr (.inr (.inr (.inr ⟨rfl, u4, rfl, hG.mono st4.ge, fun u7 h7 s7 => ⟨by simp (disch := first | omega | (simp only [e_ssz, e_psz, e_hszs, List.length_cons, List.length_nil]; try omega; done)) only [go_sem], ?_⟩⟩))))
      simp (disch := first | omega | (simp only [e_ssz, e_psz, e_hszs, List.length_cons, List.length_nil]; try omega; done)) only [↓reduceIte, go_sem]
      exact fin _ _ s7
theorem ParseBodies_hc {s : List UInt8} {h : H} (hl : s.length ≤ 9223372036854775807) (hG : LxG (hsz h) h) : HCX Tryd.prog 8 [str s] h (fun v h' => v = .bool true ∧ Ext0 h h') fun _ _ => False :=
  ParseBodies_ok ⟨hsz h, s, rfl, hl, hG, fun u' h' st => ⟨rfl, st.ext⟩⟩
end Go.Proofs.YtmnfhmbmifompaaDoor
