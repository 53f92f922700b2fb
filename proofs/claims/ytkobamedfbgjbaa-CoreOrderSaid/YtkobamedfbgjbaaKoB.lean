/- CoreOrder: the counter's clause; the law. -/
import Derived.Test.YtkobamedfbgjbaaKoA
import Derived.Test.YtkobamedfbgjbaaKrW
import Derived.Test.YtkobamedfbgjbaaKlE
import Derived.Test.YtkobamedfbgjbaaKcQ
namespace Edict
theorem litW_kind {x : Literal} (h : litW x = 0) : x.1 = 1 ∨ x.1 = 2 ∨ x.1 = 3 := by
  unfold litW at h
  split at h
  · rename_i hk; omega
  · split at h
    · rename_i hk; omega
    · cases h
theorem clauseW_lits {c : Clause} (h : clauseW c = 0) : ∀ x ∈ c.2, litW x = 0 := by
  unfold clauseW at h
  split at h
  · split at h
    · cases h
    · exact firstW_all0 h
  · rename_i ha; exact absurd h ha
theorem clauseW_16 {c : Clause} (h : clauseW c = 0) : c.2.length ≤ 16 := by
  unfold clauseW at h
  split at h
  · split at h
    · cases h
    · omega
  · rename_i ha; exact absurd h ha
theorem atomsL_cons (x : Literal) (l : List Literal) : atomsL (x :: l) = (if isA x then [x.2.1] else []) ++ atomsL l := by
  unfold atomsL
  by_cases h : isA x = true
  · rw [List.filter_cons_of_pos h, if_pos h]; rfl
  · rw [List.filter_cons_of_neg h, if_neg h]; rfl
end Edict
namespace Go.Proofs.Ytkobamedfbgjbaa
open Go Go.Ev Edict
def GoodP (ps : List Pred) : Prop := (∀ x ∈ ps, PredN x) ∧ (ps.map (·.1)).Nodup
theorem GoodP.ag {ps : List Pred} (h : GoodP ps) {a : Atom} (ha : AtomN a) : ∀ n, (a.1, n) ∈ ps → n = a.2.1.length := fun n hn => predN_ar (h.1 _ hn) ha rfl
theorem GoodP.next {ps : List Pred} (h : GoodP ps) {a : Atom} (ha : AtomN a) : GoodP (namT ps a) := namT_n h.1 h.2 ha
theorem GoodP.nexts {ps : List Pred} (h : GoodP ps) {l : List Atom} (ha : ∀ a ∈ l, AtomN a) : GoodP (l.foldl namT ps) := names_n h.1 h.2 ha
def C_cclause (vs : List Value) (h : H) (K : Value → H → Prop) : Prop := ∃ (u : U) (bn : Nat) (pa ca : Option Addr) (pc cc : Nat) (vR vF : Value) (P : List Pred) (C : List Const) (ps : List Pred) (cs : List Const) (c : Clause) (l : List Value), vs = [.pointer (some ⟨bn, 0, none⟩), .agg l.toArray] ∧ Rep.rep u h c l ∧ CtS u h bn pa ca pc cc vR vF P C ps.length cs.length ∧
  (atomsC c).foldl namT ps <+: P ∧ (termsC c).foldl valT cs <+: C ∧ GoodP ps ∧ ClauseN c ∧ P.length ≤ 1048576 ∧ C.length ≤ 1048576 ∧
  ∀ u' h', Step (fun i => i = bn) u h u' h' → CtS u' h' bn pa ca pc cc vR vF P C ((atomsC c).foldl namT ps).length ((termsC c).foldl valT cs).length → K (.bool true) h'
def G_klCClause : Ctr := fun f vs h K _ => (f = 35 ∧ C_cterm vs h K) ∨ (f = 11 ∧ C_catom vs h K)
theorem G_klCClause_ok : GOk Try.prog G_klCClause := by
  rintro f vs h K KP (⟨rfl, hC⟩ | ⟨rfl, hC⟩)
  · exact klCTerm_ok hC
  · exact klCAtom_ok hC
theorem klCClause_ok {vs : List Value} {h : H} {K : Value → H → Prop} {KP : List PanicEntry → H → Prop} (hC : C_cclause vs h K) : HCX Try.prog 10 vs h K KP := by
  obtain ⟨u, bn, pa, ca, pc, cc, vR, vF, P, C, ps, cs, c, l, rfl, hr, X, hpf, hcf, hG, hN, hPl, hCl, hK⟩ := hC
  rw [rep_clause] at hr
  obtain ⟨va, vb, rfl, hh, hb⟩ := hr
  obtain ⟨ha, hc, rfl, -, -⟩ := hh.sl
  obtain ⟨ba, bc, rfl, -, -⟩ := hb.sl
  have hm := mlen'
  have hbn := X.1.1
  have hc16 := clauseW_16 hN.w
  refine klCClause_H G_klCClause G_klCClause_ok _ _ ?_
  have sA := Step.push0 S0 u h #[str c.1.1, .slice ha c.1.2.1.length hc, .int .i64 c.1.2.2, .slice ba c.2.length bc] 48
  have A : Blk (ub u h.size 0) (h.push (.cells #[str c.1.1, .slice ha c.1.2.1.length hc, .int .i64 c.1.2.2, .slice ba c.2.length bc] 48)) h.size [str c.1.1, .slice ha c.1.2.1.length hc, .int .i64 c.1.2.2, .slice ba c.2.length bc] := (Blk.mk (by simp only [e_psz]; omega) (by simp (disch := first | omega | (simp only [e_ssz, e_psz, e_hszs, List.length_cons, List.length_nil]; try omega; done)) only [go_sem]) (by simp (disch := first | omega | (simp only [e_ssz, e_psz, e_hszs, List.length_cons, List.length_nil]; try omega; done)) only [go_sem]) (by repeat (first | (refine ub_at ?_; simp only []; done) | apply ub_zero)) (by simp (disch := first | omega | (simp only [e_ssz, e_psz, e_hszs, List.length_cons, List.length_nil]; try omega; done)) only [go_sem]))
  have X1 := X.step sA (fun h => h)
  have hsA : (atomsC c).foldl namT ps = (atomsL c.2).foldl namT (namT ps c.1) := rfl
  have hsT : (termsC c).foldl valT cs = (c.2.flatMap termsL).foldl valT (c.1.2.1.foldl valT cs) := by unfold termsC; rw [List.foldl_append]
  have ha1 := hN.names c.1 (List.mem_cons_self ..)
  simp (disch := first | omega | (simp only [e_ssz, e_psz, e_hszs, List.length_cons, List.length_nil]; try omega; done)) only [↓reduceIte, go_sem, klCClause_S, klCClause_E]
  refine effS_call (.inr ⟨rfl, ub u h.size 0, bn, pa, ca, pc, cc, vR, vF, P, C, ps, cs, c.1, [str c.1.1, .slice ha c.1.2.1.length hc, .int .i64 c.1.2.2], rfl, by rw [rep_atom]; exact ⟨_, rfl, hh.mono sA.ge⟩, X1, by rw [hsA] at hpf; exact (namesT_pfx _ _).trans hpf, by rw [hsT] at hcf; exact (valsT_pfx _ _).trans hcf, hG.ag ha1, hPl, hCl, fun u2 h2 s2 X2 => ⟨by simp (disch := first | omega | (simp only [e_ssz, e_psz, e_hszs, List.length_cons, List.length_nil]; try omega; done)) only [go_sem], ?_⟩⟩)
  have A2 := A.step s2 (fun e => by have e : h.size = bn := e; omega)
  have st2 : Step (fun i => i = bn) u h u2 h2 := (sA.mono fun _ _ h => h.elim).trans s2 (fun _ _ h => h)
  have hb2 := (hb.mono sA.ge).mono s2.ge
  simp (disch := first | omega | (simp only [e_ssz, e_psz, e_hszs, List.length_cons, List.length_nil]; try omega; done)) only [↓reduceIte, go_sem]
  obtain ⟨I, hI⟩ : ∃ I : Nat → Env → H → Prop, I = fun i σ h' => σ 0 = .pointer (some ⟨bn, 0, none⟩) ∧ σ 3 = .pointer (some ⟨h.size, 0, none⟩) ∧ σ 5 = .int .i64 i ∧ i ≤ c.2.length ∧
    ∃ (u' : U) (pi : List Pred) (ci : List Const), Step (fun j => j = bn) u h u' h' ∧ CtS u' h' bn pa ca pc cc vR vF P C pi.length ci.length ∧ GoodP pi ∧ (atomsC c).foldl namT ps = (atomsL (c.2.drop i)).foldl namT pi ∧ (termsC c).foldl valT cs = ((c.2.drop i).flatMap termsL).foldl valT ci ∧
      Blk u' h' h.size [str c.1.1, .slice ha c.1.2.1.length hc, .int .i64 c.1.2.2, .slice ba c.2.length bc] ∧ IsSl u' h' (.slice ba c.2.length bc) c.2 := ⟨_, rfl⟩
  refine wpS_loop I (fun i => c.2.length - i) 0 (by
    rw [hI]
    exact ⟨by simp [upd], by simp [upd], by simp [upd], Nat.zero_le _, u2, _, _, st2, X2, hG.next ha1, hsA, hsT, A2, hb2⟩) ?_
  clear hb2 st2 A2 X2 s2 X1 A sA hsA hsT hb
  clear u2 h2
  intro i σ h' hy
  rw [hI] at hy
  obtain ⟨e0, e3, e5, hi, u', pi, ci, st, X, hGi, hA, hT, A, hb⟩ := hy
  have hal := A.1
  by_cases hlt : i < c.2.length
  · obtain ⟨x, hs⟩ : ∃ x, c.2[i]? = some x := ⟨c.2[i], by simp [hlt]⟩
    have hdr : c.2.drop i = x :: c.2.drop (i + 1) := by
      obtain ⟨hi', rfl⟩ := List.getElem?_eq_some_iff.1 hs
      exact List.drop_eq_getElem_cons hi'
    have hmem := List.mem_of_getElem? hs
    have hlw := clauseW_lits hN.w x hmem
    have hk := litW_kind hlw
    rw [hdr, atomsL_cons, List.foldl_append] at hA
    rw [hdr, List.flatMap_cons, List.foldl_append] at hT
    obtain ⟨pb, po, rfl, hpb, hpu, hpz, hpr⟩ := hb.row i x hs
    rw [rep_literal] at hpr
    obtain ⟨pv, hpr, hpv⟩ := hpr
    obtain ⟨xva, xvc, rfl, r1, r2⟩ := hpv.sl
    simp only [Term.enc, sz_literal, hvs_14, List.cons_append, List.nil_append, List.cons.injEq, and_true] at hpr hpu hpz
    obtain ⟨l0, l1, l2, l3, l4, l5, l6, l7, l8, l9, l10, l11, l12, l13⟩ := hpr
    have sp := Step.push0 S0 u' h' #[.int .i64 x.1, str x.2.1.1, .slice xva x.2.1.2.1.length xvc, .int .i64 x.2.1.2.2, .int .i64 x.2.2.1, .int .i64 x.2.2.2.1.1, .int .i64 x.2.2.2.1.2.1, str x.2.2.2.1.2.2.1, .int .i64 x.2.2.2.1.2.2.2, .int .i64 x.2.2.2.2.1.1, .int .i64 x.2.2.2.2.1.2.1, str x.2.2.2.2.1.2.2.1, .int .i64 x.2.2.2.2.1.2.2.2, .int .i64 x.2.2.2.2.2] 109
    have Y : Blk (ub u' h'.size 0) (h'.push (.cells #[.int .i64 x.1, str x.2.1.1, .slice xva x.2.1.2.1.length xvc, .int .i64 x.2.1.2.2, .int .i64 x.2.2.1, .int .i64 x.2.2.2.1.1, .int .i64 x.2.2.2.1.2.1, str x.2.2.2.1.2.2.1, .int .i64 x.2.2.2.1.2.2.2, .int .i64 x.2.2.2.2.1.1, .int .i64 x.2.2.2.2.1.2.1, str x.2.2.2.2.1.2.2.1, .int .i64 x.2.2.2.2.1.2.2.2, .int .i64 x.2.2.2.2.2] 109)) h'.size
      [.int .i64 x.1, str x.2.1.1, .slice xva x.2.1.2.1.length xvc, .int .i64 x.2.1.2.2, .int .i64 x.2.2.1, .int .i64 x.2.2.2.1.1, .int .i64 x.2.2.2.1.2.1, str x.2.2.2.1.2.2.1, .int .i64 x.2.2.2.1.2.2.2, .int .i64 x.2.2.2.2.1.1, .int .i64 x.2.2.2.2.1.2.1, str x.2.2.2.2.1.2.2.1, .int .i64 x.2.2.2.2.1.2.2.2, .int .i64 x.2.2.2.2.2] := (Blk.mk (by simp only [e_psz]; omega) (by simp (disch := first | omega | (simp only [e_ssz, e_psz, e_hszs, List.length_cons, List.length_nil]; try omega; done)) only [go_sem]) (by simp (disch := first | omega | (simp only [e_ssz, e_psz, e_hszs, List.length_cons, List.length_nil]; try omega; done)) only [go_sem]) (by repeat (first | (refine ub_at ?_; simp only []; done) | apply ub_zero)) (by simp (disch := first | omega | (simp only [e_ssz, e_psz, e_hszs, List.length_cons, List.length_nil]; try omega; done)) only [go_sem]))
    have Xp := X.step sp (fun h => h)
    have Ap := A.step0 sp
    have stp := st.trans0 sp
    have hbp := hb.mono sp.ge
    have hbn1 := X.1.1
    have next : ∀ (σ' : Env) (u3 : U) (h3 : H) (pj : List Pred) (cj : List Const), σ' 0 = σ 0 → σ' 3 = σ 3 → σ' 5 = .int .i64 ((i : Int) + 1) → Step (fun j => j = bn) (ub u' h'.size 0) (h'.push (.cells #[.int .i64 x.1, str x.2.1.1, .slice xva x.2.1.2.1.length xvc, .int .i64 x.2.1.2.2, .int .i64 x.2.2.1, .int .i64 x.2.2.2.1.1, .int .i64 x.2.2.2.1.2.1, str x.2.2.2.1.2.2.1, .int .i64 x.2.2.2.1.2.2.2, .int .i64 x.2.2.2.2.1.1, .int .i64 x.2.2.2.2.1.2.1, str x.2.2.2.2.1.2.2.1, .int .i64 x.2.2.2.2.1.2.2.2, .int .i64 x.2.2.2.2.2] 109)) u3 h3 → CtS u3 h3 bn pa ca pc cc vR vF P C pj.length cj.length → GoodP pj → pj = (if isA x then [x.2.1] else []).foldl namT pi → cj = (termsL x).foldl valT ci → ∃ y, I y σ' h3 ∧ c.2.length - y < c.2.length - i := fun σ' u3 h3 pj cj g0 g3 g5 s3 X3 G3 q1 q2 => by
      subst q1 q2
      refine ⟨i + 1, ?_, by omega⟩
      rw [hI]
      exact ⟨by rw [g0, e0], by rw [g3, e3], g5, hlt, u3, _, _, stp.trans s3 (fun _ _ h => h), X3, G3, hA, hT, Ap.step s3 (fun e => by have e : h.size = bn := e; omega), hbp.mono s3.ge⟩
    by_cases hk3 : x.1 = 3
    · have hiA : isA x = false := by unfold isA; simp [hk3]
      have hta : termsL x = [x.2.2.2.1, x.2.2.2.2.1] := by unfold termsL; rw [if_neg (by omega), if_pos hk3]
      rw [hta, List.foldl_cons, List.foldl_cons, List.foldl_nil] at hT
      rw [hT] at hcf
      have hc2 := (valsT_pfx _ _).trans hcf
      have hc1 := (valT_pfx _ _).trans hc2
      simp (disch := first | omega | (simp only [e_ssz, e_psz, e_hszs, List.length_cons, List.length_nil]; try omega; done)) only [↓reduceIte, go_sem, klCClause_L1, e0, e3, e5, A.at, A.2.1, hlt, l0, l1, l2, l3, l4, l5, l6, l7, l8, l9, l10, l11, l12, l13, eq_true hk3]
      refine effS_call (.inl ⟨rfl, ub u' h'.size 0, bn, pa, ca, pc, cc, vR, vF, P, C, _, ci, x.2.2.2.1, rfl, Xp, hc1, hCl, fun u3 h3 s3 X3 => ⟨by simp (disch := first | omega | (simp only [e_ssz, e_psz, e_hszs, List.length_cons, List.length_nil]; try omega; done)) only [go_sem], ?_⟩⟩)
      have Y3 := Y.step s3 (fun e => by have e : h'.size = bn := e; omega)
      have hy3 := Y3.1
      simp (disch := first | omega | (simp only [e_ssz, e_psz, e_hszs, List.length_cons, List.length_nil]; try omega; done)) only [↓reduceIte, go_sem, e0, Y3.at, Y3.2.1]
      refine effS_call (.inl ⟨rfl, u3, bn, pa, ca, pc, cc, vR, vF, P, C, _, _, x.2.2.2.2.1, rfl, X3, hc2, hCl, fun u4 h4 s4 X4 => ⟨by simp (disch := first | omega | (simp only [e_ssz, e_psz, e_hszs, List.length_cons, List.length_nil]; try omega; done)) only [go_sem], ?_⟩⟩)
      simp (disch := first | omega | (simp only [e_ssz, e_psz, e_hszs, List.length_cons, List.length_nil]; try omega; done)) only [↓reduceIte, go_sem, e5]
      exact next _ u4 h4 pi _ (by simp [upd]) (by simp [upd]) (by simp [upd]) (s3.trans s4 (fun _ _ h => h)) X4 hGi (by rw [hiA]; rfl) (by rw [hta]; rfl)
    · have hiA : isA x = true := by unfold isA; simp; omega
      have hta : termsL x = x.2.1.2.1 := by unfold termsL; rw [if_pos (by omega)]; rfl
      rw [hta] at hT
      rw [hiA] at hA
      have hN1 : AtomN x.2.1 := hN.names x.2.1 (List.mem_cons_of_mem _ (List.mem_map.2 ⟨x, List.mem_filter.2 ⟨hmem, hiA⟩, rfl⟩))
      simp only [if_true, List.foldl_cons, List.foldl_nil] at hA
      simp (disch := first | omega | (simp only [e_ssz, e_psz, e_hszs, List.length_cons, List.length_nil]; try omega; done)) only [↓reduceIte, go_sem, klCClause_L1, e0, e3, e5, A.at, A.2.1, hlt, l0, l1, l2, l3, l4, l5, l6, l7, l8, l9, l10, l11, l12, l13, eq_false hk3]
      refine effS_call (.inr ⟨rfl, ub u' h'.size 0, bn, pa, ca, pc, cc, vR, vF, P, C, pi, ci, x.2.1, [str x.2.1.1, .slice xva x.2.1.2.1.length xvc, .int .i64 x.2.1.2.2], rfl, by rw [rep_atom]; exact ⟨_, rfl, hpv.mono sp.ge⟩, Xp, by rw [hA] at hpf; exact (namesT_pfx _ _).trans hpf, by rw [hT] at hcf; exact (valsT_pfx _ _).trans hcf, hGi.ag hN1, hPl, hCl, fun u3 h3 s3 X3 => ⟨by simp (disch := first | omega | (simp only [e_ssz, e_psz, e_hszs, List.length_cons, List.length_nil]; try omega; done)) only [go_sem], ?_⟩⟩)
      simp (disch := first | omega | (simp only [e_ssz, e_psz, e_hszs, List.length_cons, List.length_nil]; try omega; done)) only [↓reduceIte, go_sem, e5]
      exact next _ u3 h3 _ _ (by simp [upd]) (by simp [upd]) (by simp [upd]) s3 X3 (hGi.next hN1) (by rw [hiA]; rfl) (by rw [hta])
  · obtain rfl : i = c.2.length := by omega
    rw [List.drop_length] at hA hT
    have hA : (atomsC c).foldl namT ps = pi := hA
    have hT : (termsC c).foldl valT cs = ci := hT
    simp (disch := first | omega | (simp only [e_ssz, e_psz, e_hszs, List.length_cons, List.length_nil]; try omega; done)) only [↓reduceIte, go_sem, klCClause_L1, e3, e5, A.at, A.2.1]
    exact hK _ _ st (by rw [hA, hT]; exact X)
def G_klOrder : Ctr := fun f vs h K _ => (f = 7 ∧ C_right vs h K) ∨ (f = 8 ∧ C_given vs h K) ∨ (f = 9 ∧ C_build vs h K) ∨ (f = 10 ∧ C_cclause vs h K) ∨ (f = 11 ∧ C_catom vs h K)
theorem G_klOrder_ok : GOk Try.prog G_klOrder := by
  rintro f vs h K KP (⟨rfl, hC⟩ | ⟨rfl, hC⟩ | ⟨rfl, hC⟩ | ⟨rfl, hC⟩ | ⟨rfl, hC⟩)
  · exact klRight_ok hC
  · exact klGiven_ok hC
  · exact crBuild_ok hC
  · exact klCClause_ok hC
  · exact klCAtom_ok hC
theorem rep_core_inv {u : U} {h : H} {k : Core} {cs : List Value} (hr : Rep.rep u h k cs) : ∃ v0 v1 v2 v3, cs = [v0, v1, v2, v3] ∧ IsSl u h v0 k.1 ∧ IsSl u h v1 k.2.1 ∧ IsSl u h v2 k.2.2.1 ∧ IsSl u h v3 k.2.2.2 := by
  obtain ⟨_, _, rfl, ⟨v0, rfl, h0⟩, _, _, rfl, ⟨v1, rfl, h1⟩, _, _, rfl, ⟨v2, rfl, h2⟩, v3, rfl, h3⟩ := hr
  exact ⟨v0, v1, v2, v3, rfl, h0, h1, h2, h3⟩
theorem CoreOrder_hc {u : U} {h : H} {v w : Value} {p : List Clause} {fs : List Atom} (hl : IsSl u h v p) (hlf : IsSl u h w fs) (hwp : Rep.wf p) (hwf : Rep.wf fs) (hbp : ∀ c ∈ p, ClB c) (hbf : ∀ a ∈ fs, AtB a) (hP : PowT u h) :
    HCX Try.prog 3 [.agg #[v], w] h (fun v h' => v = .bool true ∧ Ext0 h h') fun _ _ => False := by
  obtain ⟨la, lc, rfl, q1, q2⟩ := hl.sl
  obtain ⟨fa, fc, rfl, q3, q4⟩ := hlf.sl
  have hm := mlen'
  refine klOrder_H G_klOrder G_klOrder_ok _ _ ?_
  simp (disch := first | omega | (simp only [e_ssz, e_psz, e_hszs, List.length_cons, List.length_nil]; try omega; done)) only [↓reduceIte, go_sem, klOrder_S, klOrder_E]
  have s0 := Step.push0 S0 u h #[.slice la p.length lc] 24
  refine effS_call (.inl ⟨rfl, ub u h.size 0, _, p, rfl, hl.mono s0.ge, hbp, fun u1 h1 w1 s1 hw1 => ⟨by simp (disch := first | omega | (simp only [e_ssz, e_psz, e_hszs, List.length_cons, List.length_nil]; try omega; done)) only [go_sem], ?_⟩⟩)
  obtain ⟨ra, rc, rfl, -, -⟩ := hw1.sl
  have st1 := s0.trans0 s1
  have s2 := Step.push0 S0 u1 h1 #[.slice ra (rightF p).length rc] 24
  have Q2 : Blk (ub u1 h1.size 0) (h1.push (.cells #[.slice ra (rightF p).length rc] 24)) h1.size [.slice ra (rightF p).length rc] := (Blk.mk (by simp only [e_psz]; omega) (by simp (disch := first | omega | (simp only [e_ssz, e_psz, e_hszs, List.length_cons, List.length_nil]; try omega; done)) only [go_sem]) (by simp (disch := first | omega | (simp only [e_ssz, e_psz, e_hszs, List.length_cons, List.length_nil]; try omega; done)) only [go_sem]) (by repeat (first | (refine ub_at ?_; simp only []; done) | apply ub_zero)) (by simp (disch := first | omega | (simp only [e_ssz, e_psz, e_hszs, List.length_cons, List.length_nil]; try omega; done)) only [go_sem]))
  have st2 := st1.trans0 s2
  have hw2 := hw1.mono s2.ge
  simp (disch := first | omega | (simp only [e_ssz, e_psz, e_hszs, List.length_cons, List.length_nil]; try omega; done)) only [↓reduceIte, go_sem]
  refine effS_call (.inr (.inl ⟨rfl, ub u1 h1.size 0, _, fs, rfl, hlf.mono st2.ge, hbf, fun u3 h3 w3 s3 hw3 => ⟨by simp (disch := first | omega | (simp only [e_ssz, e_psz, e_hszs, List.length_cons, List.length_nil]; try omega; done)) only [go_sem], ?_⟩⟩))
  obtain ⟨ga, gc, rfl, -, -⟩ := hw3.sl
  have Q3 := Q2.step0 s3
  have st3 := st2.trans0 s3
  have hr3 := hw2.mono s3.ge
  have hq3 := Q3.1
  simp (disch := first | omega | (simp only [e_ssz, e_psz, e_hszs, List.length_cons, List.length_nil]; try omega; done)) only [↓reduceIte, go_sem, Q3.at, Q3.2.1]
  refine effS_call (.inr (.inr (.inl ⟨rfl, u3, _, _, rightF p, givenF fs, rfl, hr3, hw3, wf_right hwp, wf_given hwf, hP.mono st3.ge, fun u4 h4 l4 s4 hr4 => ⟨by simp (disch := first | omega | (simp only [e_ssz, e_psz, e_hszs, List.length_cons, List.length_nil]; try omega; done)) only [go_sem], ?_⟩⟩)))
  rw [right_built] at hr4 ⊢
  have Q4 := Q3.step0 s4
  have st4 := st3.trans0 s4
  have hq4 := hr3.mono s4.ge
  have hg4 := hw3.mono s4.ge
  obtain ⟨v0, v1, v2, v3, rfl, i0, i1, i2, i3⟩ := rep_core_inv hr4
  obtain ⟨q, hq⟩ : ∃ q, q = rightF p := ⟨_, rfl⟩
  obtain ⟨g, hg⟩ : ∃ g, g = givenF fs := ⟨_, rfl⟩
  have hqn := right_n p
  have hgn := givens_n fs
  rw [← hq] at i0 i1 i2 i3 Q4 hq4 hqn
  rw [← hg] at i0 i1 i2 i3 hg4 hgn
  rw [← hq, ← hg]
  obtain ⟨P, hPd⟩ : ∃ P, P = psF q g := ⟨_, rfl⟩
  obtain ⟨C, hCd⟩ : ∃ C, C = csF q g := ⟨_, rfl⟩
  have i0 : IsSl u4 h4 v0 P := by rw [hPd]; exact i0
  have i1 : IsSl u4 h4 v1 C := by rw [hCd]; exact i1
  obtain ⟨pa, pc, rfl, -, -⟩ := i0.sl
  obtain ⟨ca, cc, rfl, -, -⟩ := i1.sl
  obtain ⟨xa, xc, rfl, -, -⟩ := i2.sl
  obtain ⟨ya, yc, rfl, -, -⟩ := i3.sl
  have nA := flatN hqn.1
  have nT := flat_few (f := termsC) (n := 136) (l := q) fun c hc => clauseW_few (hqn.1 c hc).w
  have nT2 := flat_few (f := fun a : Atom => a.2.1) (n := 8) (l := g) fun a ha => atomW_few (grB_w (hgn.1 a ha).g)
  have hCl : C.length ≤ 1048576 := by
    rw [hCd]
    unfold csF
    have h1 := valsT_len (g.flatMap (·.2.1)) ((q.flatMap termsC).foldl valT [])
    have h2 := valsT_len (q.flatMap termsC) []
    simp only [List.length_nil] at h2
    omega
  have hGq : GoodP ((q.flatMap atomsC).foldl namT []) := GoodP.nexts ⟨by simp, by simp⟩ nA
  have hGP : GoodP P := by rw [hPd]; exact hGq.nexts fun a ha => (hgn.1 a ha).n
  have hPl : P.length ≤ 1048576 := by have := predN_few hGP.1 hGP.2; omega
  simp only [fV]
  have sC := Step.push0 S0 u4 h4 #[.slice pa P.length pc, .slice ca C.length cc, .slice xa (coreF q g).2.2.1.length xc, .slice ya (coreF q g).2.2.2.length yc] 33
  have K5 : Blk (ub u4 h4.size 0) (h4.push (.cells #[.slice pa P.length pc, .slice ca C.length cc, .slice xa (coreF q g).2.2.1.length xc, .slice ya (coreF q g).2.2.2.length yc] 33)) h4.size [.slice pa P.length pc, .slice ca C.length cc, .slice xa (coreF q g).2.2.1.length xc, .slice ya (coreF q g).2.2.2.length yc] := (Blk.mk (by simp only [e_psz]; omega) (by simp (disch := first | omega | (simp only [e_ssz, e_psz, e_hszs, List.length_cons, List.length_nil]; try omega; done)) only [go_sem]) (by simp (disch := first | omega | (simp only [e_ssz, e_psz, e_hszs, List.length_cons, List.length_nil]; try omega; done)) only [go_sem]) (by repeat (first | (refine ub_at ?_; simp only []; done) | apply ub_zero)) (by simp (disch := first | omega | (simp only [e_ssz, e_psz, e_hszs, List.length_cons, List.length_nil]; try omega; done)) only [go_sem]))
  have Q5 := Q4.step0 sC
  have hql := Q4.1
  simp (disch := first | omega | (simp only [e_ssz, e_psz, e_hszs, List.length_cons, List.length_nil]; try omega; done)) only [↓reduceIte, go_sem]
  have sD := Step.push0 S0 (ub u4 h4.size 0) (h4.push (.cells #[.slice pa P.length pc, .slice ca C.length cc, .slice xa (coreF q g).2.2.1.length xc, .slice ya (coreF q g).2.2.2.length yc] 33)) #[.int .i64 0, .int .i64 0, .int .i64 0] 36
  have K6 := K5.step0 sD
  have Q6 := Q5.step0 sD
  have st6 := (st4.trans0 sC).trans0 sD
  have i6 := (i0.mono sC.ge).mono sD.ge
  have j6 := (i1.mono sC.ge).mono sD.ge
  have hq6 := (hq4.mono sC.ge).mono sD.ge
  have hg6 := (hg4.mono sC.ge).mono sD.ge
  generalize ub (ub u4 h4.size 0) (h4.push (.cells #[.slice pa P.length pc, .slice ca C.length cc, .slice xa (coreF q g).2.2.1.length xc, .slice ya (coreF q g).2.2.2.length yc] 33)).size 0 = u6 at K6 Q6 st6 i6 j6 hq6 hg6
  obtain ⟨h6, hh6⟩ : ∃ h6, h6 = (h4.push (.cells #[.slice pa P.length pc, .slice ca C.length cc, .slice xa (coreF q g).2.2.1.length xc, .slice ya (coreF q g).2.2.2.length yc] 33)).push (.cells #[.int .i64 0, .int .i64 0, .int .i64 0] 36) := ⟨_, rfl⟩
  have hs6 : h6.size = h4.size + 2 := by rw [hh6]; simp only [e_psz]
  rw [← hh6] at K6 Q6 st6 i6 j6 hq6 hg6 ⊢
  clear hh6
  have sE := Step.push0 S0 u6 h6 #[.slice pa P.length pc, .slice ca C.length cc, .slice xa (coreF q g).2.2.1.length xc, .slice ya (coreF q g).2.2.2.length yc, .int .i64 0, .int .i64 0] 41
  have N7 : Blk (ub u6 h6.size 0) (h6.push (.cells #[.slice pa P.length pc, .slice ca C.length cc, .slice xa (coreF q g).2.2.1.length xc, .slice ya (coreF q g).2.2.2.length yc, .int .i64 0, .int .i64 0] 41)) h6.size [.slice pa P.length pc, .slice ca C.length cc, .slice xa (coreF q g).2.2.1.length xc, .slice ya (coreF q g).2.2.2.length yc, .int .i64 0, .int .i64 0] := (Blk.mk (by simp only [e_psz]; omega) (by simp (disch := first | omega | (simp only [e_ssz, e_psz, e_hszs, List.length_cons, List.length_nil]; try omega; done)) only [go_sem]) (by simp (disch := first | omega | (simp only [e_ssz, e_psz, e_hszs, List.length_cons, List.length_nil]; try omega; done)) only [go_sem]) (by repeat (first | (refine ub_at ?_; simp only []; done) | apply ub_zero)) (by simp (disch := first | omega | (simp only [e_ssz, e_psz, e_hszs, List.length_cons, List.length_nil]; try omega; done)) only [go_sem]))
  have K7 := K6.step0 sE
  have Q7 := Q6.step0 sE
  have st7 := st6.trans0 sE
  have X7 : CtS (ub u6 h6.size 0) (h6.push (.cells #[.slice pa P.length pc, .slice ca C.length cc, .slice xa (coreF q g).2.2.1.length xc, .slice ya (coreF q g).2.2.2.length yc, .int .i64 0, .int .i64 0] 41)) h6.size pa ca pc cc (.slice xa (coreF q g).2.2.1.length xc) (.slice ya (coreF q g).2.2.2.length yc) P C 0 0 := ⟨N7, i6.mono sE.ge, j6.mono sE.ge⟩
  have hq7 := hq6.mono sE.ge
  have hg7 := hg6.mono sE.ge
  obtain ⟨p5, hp5⟩ : ∃ p5, p5 = h1.size := ⟨_, rfl⟩
  obtain ⟨p7, hp7⟩ : ∃ p7, p7 = h4.size := ⟨_, rfl⟩
  obtain ⟨bn, hbn⟩ : ∃ bn, bn = h6.size := ⟨_, rfl⟩
  have hd : h.size ≤ bn ∧ p5 ≠ bn ∧ p7 ≠ bn := by have := st6.ge.sz; omega
  rw [← hp5] at Q7
  rw [← hp7] at K7
  have X7 : CtS (ub u6 h6.size 0) (h6.push (.cells #[.slice pa P.length pc, .slice ca C.length cc, .slice xa (coreF q g).2.2.1.length xc, .slice ya (coreF q g).2.2.2.length yc, .int .i64 0, .int .i64 0] 41)) bn pa ca pc cc (.slice xa (coreF q g).2.2.1.length xc) (.slice ya (coreF q g).2.2.2.length yc) P C 0 0 := by rw [hbn]; exact X7
  obtain ⟨I, hI⟩ : ∃ I : Nat → Env → H → Prop, I = fun i σ h' => σ 5 = .pointer (some ⟨p5, 0, none⟩) ∧ σ 6 = .slice ga g.length gc ∧ σ 7 = .pointer (some ⟨p7, 0, none⟩) ∧ σ 9 = .pointer (some ⟨bn, 0, none⟩) ∧ σ 10 = .int .i64 i ∧ i ≤ q.length ∧
    ∃ (u' : U) (pi : List Pred) (ci : List Const), Step S0 u h u' h' ∧ CtS u' h' bn pa ca pc cc (.slice xa (coreF q g).2.2.1.length xc) (.slice ya (coreF q g).2.2.2.length yc) P C pi.length ci.length ∧ GoodP pi ∧ (q.flatMap atomsC).foldl namT [] = ((q.drop i).flatMap atomsC).foldl namT pi ∧ (q.flatMap termsC).foldl valT [] = ((q.drop i).flatMap termsC).foldl valT ci ∧
      Blk u' h' p5 [.slice ra q.length rc] ∧ Blk u' h' p7 [.slice pa P.length pc, .slice ca C.length cc, .slice xa (coreF q g).2.2.1.length xc, .slice ya (coreF q g).2.2.2.length yc] ∧ IsSl u' h' (.slice ra q.length rc) q ∧ IsSl u' h' (.slice ga g.length gc) g := ⟨_, rfl⟩
  refine wpS_loop I (fun i => q.length - i) 0 (by
    rw [hI]
    exact ⟨by simp [upd, hp5], by simp [upd], by simp [upd, hp7], by simp [upd, hbn], by simp [upd], Nat.zero_le _, _, [], [], st7, X7, ⟨by simp, by simp⟩, rfl, rfl, Q7, K7, hq7, hg7⟩) ?_
  have hPq : (q.flatMap atomsC).foldl namT [] <+: P := by rw [hPd]; exact namesT_pfx _ _
  have hCq : (q.flatMap termsC).foldl valT [] <+: C := by rw [hCd]; exact valsT_pfx _ _
  clear X7 N7 Q7 K7 hq7 hg7 st7 sE hp5 hp7 hbn hs6 K6 Q6 st6 i6 j6 hq6 hg6 sD Q5 K5 sC Q4 hq4 hg4 i0 i1 i2 i3 hr4 st4 s4 hq3 hr3 hw3 st3 s3 Q3 hw2 st2 Q2 s2 hw1 st1 s1 s0
  intro i σ h' hy
  rw [hI] at hy
  obtain ⟨e5, e6, e7, e9, e10, hi, u', pi, ci, st, X, hG, hA, hT, Q, Kk, hqs, hgs⟩ := hy
  have hQl := Q.1
  have hNl := X.1.1
  by_cases hlt : i < q.length
  · obtain ⟨c, hs⟩ : ∃ c, q[i]? = some c := ⟨q[i], by simp [hlt]⟩
    have hdr : q.drop i = c :: q.drop (i + 1) := by
      obtain ⟨hi', rfl⟩ := List.getElem?_eq_some_iff.1 hs
      exact List.drop_eq_getElem_cons hi'
    rw [hdr, List.flatMap_cons, List.foldl_append] at hA hT
    have hcn := hqn.1 c (List.mem_of_getElem? hs)
    obtain ⟨pb, po, rfl, hpb, hpu, hpz, hpr⟩ := hqs.row i c hs
    have hprs := hpr
    rw [rep_clause] at hpr
    obtain ⟨va, vb, hpr, hh, hbd⟩ := hpr
    obtain ⟨ha, hc, rfl, -, -⟩ := hh.sl
    obtain ⟨ba, bc, rfl, -, -⟩ := hbd.sl
    have hcells := hpr
    simp only [sz_clause, hvs_4, List.cons.injEq, and_true] at hpr hpu hpz
    obtain ⟨l0, l1, l2, l3⟩ := hpr
    rw [hcells] at hprs
    simp (disch := first | omega | (simp only [e_ssz, e_psz, e_hszs, List.length_cons, List.length_nil]; try omega; done)) only [↓reduceIte, go_sem, klOrder_L1, e5, e9, e10, Q.at, Q.2.1, hlt, l0, l1, l2, l3]
    refine effS_call (.inr (.inr (.inr (.inl ⟨rfl, u', bn, pa, ca, pc, cc, _, _, P, C, pi, ci, c, _, rfl, hprs, X, by rw [hA] at hPq; exact (namesT_pfx _ _).trans hPq, by rw [hT] at hCq; exact (valsT_pfx _ _).trans hCq, hG, hcn, hPl, hCl, fun u3 h3 s3 X3 => ⟨by simp (disch := first | omega | (simp only [e_ssz, e_psz, e_hszs, List.length_cons, List.length_nil]; try omega; done)) only [go_sem], ?_⟩⟩))))
    simp (disch := first | omega | (simp only [e_ssz, e_psz, e_hszs, List.length_cons, List.length_nil]; try omega; done)) only [↓reduceIte, go_sem, e10]
    refine ⟨i + 1, ?_, by omega⟩
    rw [hI]
    exact ⟨by simp [upd, e5], by simp [upd, e6], by simp [upd, e7], by simp [upd, e9], by simp [upd], hlt, u3, _, _, st.trans s3 (fun j hj e => by have e : j = bn := e; omega), X3, hG.nexts hcn.names, hA, hT, Q.step s3 hd.2.1, Kk.step s3 hd.2.2, hqs.mono s3.ge, hgs.mono s3.ge⟩
  · obtain rfl : i = q.length := by omega
    rw [List.drop_length] at hA hT
    have hA : (q.flatMap atomsC).foldl namT [] = pi := hA
    have hT : (q.flatMap termsC).foldl valT [] = ci := hT
    simp (disch := first | omega | (simp only [e_ssz, e_psz, e_hszs, List.length_cons, List.length_nil]; try omega; done)) only [↓reduceIte, go_sem, klOrder_L1, e5, e10, Q.at, Q.2.1]
    have hP2 : P = g.foldl namT pi := by rw [hPd, ← hA]; rfl
    have hC2 : C = (g.flatMap (·.2.1)).foldl valT ci := by rw [hCd, ← hT]; rfl
    clear hI hA hT
    obtain ⟨J, hJ⟩ : ∃ J : Nat → Env → H → Prop, J = fun i σ h' => σ 6 = .slice ga g.length gc ∧ σ 7 = .pointer (some ⟨p7, 0, none⟩) ∧ σ 9 = .pointer (some ⟨bn, 0, none⟩) ∧ σ 11 = .int .i64 i ∧ i ≤ g.length ∧
      ∃ (u' : U) (pi : List Pred) (ci : List Const), Step S0 u h u' h' ∧ CtS u' h' bn pa ca pc cc (.slice xa (coreF q g).2.2.1.length xc) (.slice ya (coreF q g).2.2.2.length yc) P C pi.length ci.length ∧ GoodP pi ∧ P = (g.drop i).foldl namT pi ∧ C = ((g.drop i).flatMap (·.2.1)).foldl valT ci ∧
        Blk u' h' p7 [.slice pa P.length pc, .slice ca C.length cc, .slice xa (coreF q g).2.2.1.length xc, .slice ya (coreF q g).2.2.2.length yc] ∧ IsSl u' h' (.slice ga g.length gc) g := ⟨_, rfl⟩
    refine wpS_loop J (fun i => g.length - i) 0 (by
      rw [hJ]
      exact ⟨by simp [upd, e6], by simp [upd, e7], by simp [upd, e9], by simp [upd], Nat.zero_le _, u', pi, ci, st, X, hG, hP2, hC2, Kk, hgs⟩) ?_
    clear e5 e6 e7 e9 e10 st X hG Q Kk hqs hgs hQl hNl hP2 hC2 hi hlt
    intro i σ h' hy
    rw [hJ] at hy
    obtain ⟨e6, e7, e9, e11, hi, u', pi, ci, st, X, hG, hA, hT, Kk, hgs⟩ := hy
    have hKl := Kk.1
    have hNl := X.1.1
    by_cases hlt : i < g.length
    · obtain ⟨x, hs⟩ : ∃ x, g[i]? = some x := ⟨g[i], by simp [hlt]⟩
      have hdr : g.drop i = x :: g.drop (i + 1) := by
        obtain ⟨hi', rfl⟩ := List.getElem?_eq_some_iff.1 hs
        exact List.drop_eq_getElem_cons hi'
      rw [hdr, List.foldl_cons] at hA
      rw [hdr, List.flatMap_cons, List.foldl_append] at hT
      have hxn := (hgn.1 x (List.mem_of_getElem? hs)).n
      obtain ⟨pb, po, rfl, hpb, hpu, hpz, hpr⟩ := hgs.row i x hs
      have hprs := hpr
      rw [rep_atom] at hpr
      obtain ⟨va, hpr, hh⟩ := hpr
      obtain ⟨ha, hc, rfl, -, -⟩ := hh.sl
      have hcells := hpr
      simp only [sz_atom, hvs_3, List.cons.injEq, and_true] at hpr hpu hpz
      obtain ⟨l0, l1, l2⟩ := hpr
      rw [hcells] at hprs
      have hpf : namT pi x <+: P := by
        have := namesT_pfx (g.drop (i + 1)) (namT pi x)
        rw [← hA] at this
        exact this
      have hcf : x.2.1.foldl valT ci <+: C := by
        have := valsT_pfx ((g.drop (i + 1)).flatMap (·.2.1)) (x.2.1.foldl valT ci)
        rw [← hT] at this
        exact this
      simp (disch := first | omega | (simp only [e_ssz, e_psz, e_hszs, List.length_cons, List.length_nil]; try omega; done)) only [↓reduceIte, go_sem, klOrder_L2, e6, e9, e11, hlt, l0, l1, l2]
      refine effS_call (.inr (.inr (.inr (.inr ⟨rfl, u', bn, pa, ca, pc, cc, _, _, P, C, pi, ci, x, _, rfl, hprs, X, hpf, hcf, hG.ag hxn, hPl, hCl, fun u3 h3 s3 X3 => ⟨by simp (disch := first | omega | (simp only [e_ssz, e_psz, e_hszs, List.length_cons, List.length_nil]; try omega; done)) only [go_sem], ?_⟩⟩))))
      simp (disch := first | omega | (simp only [e_ssz, e_psz, e_hszs, List.length_cons, List.length_nil]; try omega; done)) only [↓reduceIte, go_sem, e11]
      refine ⟨i + 1, ?_, by omega⟩
      rw [hJ]
      exact ⟨by simp [upd, e6], by simp [upd, e7], by simp [upd, e9], by simp [upd], hlt, u3, _, _, st.trans s3 (fun j hj e => by have e : j = bn := e; omega), X3, hG.next hxn, hA, hT, Kk.step s3 hd.2.2, hgs.mono s3.ge⟩
    · obtain rfl : i = g.length := by omega
      rw [List.drop_length] at hA hT
      have hA : P = pi := hA
      have hT : C = ci := hT
      have XB := X.1
      rw [← hA, ← hT] at XB
      simp (disch := first | omega | (simp only [e_ssz, e_psz, e_hszs, List.length_cons, List.length_nil]; try omega; done)) only [↓reduceIte, go_sem, klOrder_L2, e6, e7, e9, e11, XB.at, XB.2.1, Kk.at, Kk.2.1]
      exact st.ext
end Go.Proofs.Ytkobamedfbgjbaa
