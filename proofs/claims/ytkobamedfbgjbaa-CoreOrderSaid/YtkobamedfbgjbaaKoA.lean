/- CoreOrder: the counter's term and atom. -/
import Derived.Test.YtkobamedfbgjbaaKlO
import Derived.Test.YtkobamedfbgjbaaKrQ
import Derived.Test.YtkobamedfbgjbaaKcO
namespace Edict
theorem cst_ne {a b : Const} (h : a ≠ b) : (decide (a.1 = b.1) && (decide (a.2.1 = b.2.1) && decide (a.2.2 = b.2.2))) = false := by
  cases hd : (decide (a.1 = b.1) && (decide (a.2.1 = b.2.1) && decide (a.2.2 = b.2.2))) with
  | false => rfl
  | true =>
    simp only [Bool.and_eq_true, decide_eq_true_eq] at hd
    exact absurd (Prod.ext hd.1 (Prod.ext hd.2.1 hd.2.2)) h
theorem prd_ne {a b : Pred} (h : a ≠ b) : (decide (a.1 = b.1) && decide (a.2 = b.2)) = false := by
  cases hd : (decide (a.1 = b.1) && decide (a.2 = b.2)) with
  | false => rfl
  | true =>
    simp only [Bool.and_eq_true, decide_eq_true_eq] at hd
    exact absurd (Prod.ext hd.1 hd.2) h
theorem pfx_get {α : Type} {a b : List α} (h : a <+: b) {i : Nat} (hi : i < a.length) : b[i]? = a[i]? := by
  obtain ⟨c, rfl⟩ := h
  rw [List.getElem?_append_left hi]
theorem pfx_snoc {α : Type} {a b : List α} {x : α} (h : a ++ [x] <+: b) : b[a.length]? = some x ∧ a.length < b.length := by
  obtain ⟨c, rfl⟩ := h
  simp
theorem valT_pfx (cs : List Const) (t : Term) : cs <+: valT cs t := by
  unfold valT; split
  · exact List.prefix_refl _
  · exact List.prefix_append _ _
theorem valsT_pfx : ∀ (l : List Term) (cs : List Const), cs <+: l.foldl valT cs
  | [], _ => List.prefix_refl _
  | t :: l, cs => (valT_pfx cs t).trans (valsT_pfx l _)
theorem namT_pfx (ps : List Pred) (a : Atom) : ps <+: namT ps a := by
  unfold namT; split
  · exact List.prefix_refl _
  · exact List.prefix_append _ _
theorem namesT_pfx : ∀ (l : List Atom) (ps : List Pred), ps <+: l.foldl namT ps
  | [], _ => List.prefix_refl _
  | a :: l, ps => (namT_pfx ps a).trans (namesT_pfx l _)
end Edict
namespace Go.Proofs.Ytkobamedfbgjbaa
open Go Go.Ev Edict
/-- The counter in block bn. -/
def CtS (u : U) (h : H) (bn : Nat) (pa ca : Option Addr) (pc cc : Nat) (vR vF : Value) (P : List Pred) (C : List Const) (np nc : Nat) : Prop := Blk u h bn [.slice pa P.length pc, .slice ca C.length cc, vR, vF, .int .i64 np, .int .i64 nc] ∧ IsSl u h (.slice pa P.length pc) P ∧ IsSl u h (.slice ca C.length cc) C
theorem CtS.step {S : Nat → Prop} {u u' : U} {h h' : H} {bn : Nat} {pa ca : Option Addr} {pc cc : Nat} {vR vF : Value} {P : List Pred} {C : List Const} {np nc : Nat} (X : CtS u h bn pa ca pc cc vR vF P C np nc) (s : Step S u h u' h') (hn : ¬ S bn) : CtS u' h' bn pa ca pc cc vR vF P C np nc :=
  ⟨X.1.step s hn, X.2.1.mono s.ge, X.2.2.mono s.ge⟩
def C_cterm (vs : List Value) (h : H) (K : Value → H → Prop) : Prop := ∃ (u : U) (bn : Nat) (pa ca : Option Addr) (pc cc : Nat) (vR vF : Value) (P : List Pred) (C : List Const) (np : Nat) (cs : List Const) (t : Term), vs = [.pointer (some ⟨bn, 0, none⟩), .agg (Term.enc t).toArray] ∧ CtS u h bn pa ca pc cc vR vF P C np cs.length ∧
  valT cs t <+: C ∧ C.length ≤ 1048576 ∧ ∀ u' h', Step (fun i => i = bn) u h u' h' → CtS u' h' bn pa ca pc cc vR vF P C np (valT cs t).length → K (.bool true) h'
theorem klCTerm_ok {vs : List Value} {h : H} {K : Value → H → Prop} {KP : List PanicEntry → H → Prop} (hC : C_cterm vs h K) : HCX Try.prog 35 vs h K KP := by
  obtain ⟨u, bn, pa, ca, pc, cc, vR, vF, P, C, np, cs, t, rfl, X, hpf, hCl, hK⟩ := hC
  have hm := mlen'
  have hcp := (valT_pfx cs t).trans hpf
  have hcl := hcp.length_le
  refine klCTerm_H (fun _ _ _ _ _ => False) (fun _ _ _ _ _ h => h.elim) _ _ ?_
  have hbn := X.1.1
  have sA := Step.push0 S0 u h #[.int .i64 t.1, .int .i64 t.2.1, str t.2.2.1, .int .i64 t.2.2.2] 94
  have X1 := X.step sA (fun h => h)
  by_cases hk : t.1 = 4
  · have hv : valT cs t = cs := by unfold valT; rw [if_pos (.inl hk)]
    rw [hv] at hK
    simp (disch := first | omega | (simp only [e_ssz, e_psz, e_hszs, List.length_cons, List.length_nil]; try omega; done)) only [↓reduceIte, go_sem, klCTerm_S, klCTerm_E, Term.enc, eq_true hk]
    exact hK _ _ (sA.mono fun _ _ h => h.elim) X1
  · have sB := Step.push0 S0 (ub u h.size 0) (h.push (.cells #[.int .i64 t.1, .int .i64 t.2.1, str t.2.2.1, .int .i64 t.2.2.2] 94)) #[.int .i64 t.1, .int .i64 t.2.1, str t.2.2.1] 131
    have X2 := X1.step sB (fun h => h)
    have st := sA.trans0 sB
    have B : Blk (ub (ub u h.size 0) (h.push (.cells #[.int .i64 t.1, .int .i64 t.2.1, str t.2.2.1, .int .i64 t.2.2.2] 94)).size 0) ((h.push (.cells #[.int .i64 t.1, .int .i64 t.2.1, str t.2.2.1, .int .i64 t.2.2.2] 94)).push (.cells #[.int .i64 t.1, .int .i64 t.2.1, str t.2.2.1] 131)) (h.size + 1) [.int .i64 t.1, .int .i64 t.2.1, str t.2.2.1] := (Blk.mk (by simp only [e_psz]; omega) (by simp (disch := first | omega | (simp only [e_ssz, e_psz, e_hszs, List.length_cons, List.length_nil]; try omega; done)) only [go_sem]) (by simp (disch := first | omega | (simp only [e_ssz, e_psz, e_hszs, List.length_cons, List.length_nil]; try omega; done)) only [go_sem]) (by repeat (first | (refine ub_at ?_; simp only [e_psz]; done) | apply ub_zero)) (by simp (disch := first | omega | (simp only [e_ssz, e_psz, e_hszs, List.length_cons, List.length_nil]; try omega; done)) only [go_sem]))
    simp (disch := first | omega | (simp only [e_ssz, e_psz, e_hszs, List.length_cons, List.length_nil]; try omega; done)) only [↓reduceIte, go_sem, klCTerm_S, klCTerm_E, Term.enc, eq_false hk]
    generalize ub (ub u h.size 0) (h.push (.cells #[.int .i64 t.1, .int .i64 t.2.1, str t.2.2.1, .int .i64 t.2.2.2] 94)).size 0 = u2 at X2 B st
    generalize (h.push (.cells #[.int .i64 t.1, .int .i64 t.2.1, str t.2.2.1, .int .i64 t.2.2.2] 94)).push (.cells #[.int .i64 t.1, .int .i64 t.2.1, str t.2.2.1] 131) = h2 at X2 B st ⊢
    obtain ⟨XB, XP, XC⟩ := X2
    have hxl := XB.1
    have hbl := B.1
    obtain ⟨I, hI⟩ : ∃ I : Nat → Env → H → Prop, I = fun i σ h' => h' = h2 ∧ σ 0 = .pointer (some ⟨bn, 0, none⟩) ∧ σ 5 = .pointer (some ⟨h.size + 1, 0, none⟩) ∧ σ 6 = .int .i64 i ∧ i ≤ cs.length ∧ cnst t ∉ cs.take i := ⟨_, rfl⟩
    refine wpS_loop I (fun i => cs.length - i) 0 (by rw [hI]; exact ⟨rfl, by simp [upd], by simp [upd], by simp [upd], Nat.zero_le _, by simp⟩) ?_
    intro i σ h' hy
    rw [hI] at hy
    obtain ⟨rfl, e0, e5, e6, hi, hn⟩ := hy
    by_cases hlt : i < cs.length
    · obtain ⟨x, hx⟩ : ∃ x, cs[i]? = some x := ⟨cs[i], by simp [hlt]⟩
      have hxC : C[i]? = some x := by rw [pfx_get hcp hlt]; exact hx
      have hiC := (List.getElem?_eq_some_iff.1 hxC).1
      have htk : cs.take (i + 1) = cs.take i ++ [x] := by rw [List.take_add_one, hx]; rfl
      obtain ⟨qb, qo, rfl, hqb, hqu, hqz, hqr⟩ := XC.row i x hxC
      rw [rep_const] at hqr
      simp only [sz_const, hvs_3, List.cons.injEq, and_true] at hqr hqu hqz
      obtain ⟨c0, c1, c2⟩ := hqr
      by_cases he : x = cnst t
      · have hv : valT cs t = cs := by unfold valT; rw [if_pos (.inr (by rw [← he]; exact List.mem_of_getElem? hx))]
        rw [hv] at hK
        have x1 : x.1 = t.1 := congrArg (fun c : Const => c.1) he
        have x2 : x.2.1 = t.2.1 := congrArg (fun c : Const => c.2.1) he
        have x3 : x.2.2 = t.2.2.1 := congrArg (fun c : Const => c.2.2) he
        simp (disch := first | omega | (simp only [e_ssz, e_psz, e_hszs, List.length_cons, List.length_nil]; try omega; done)) only [↓reduceIte, go_sem, klCTerm_L1, e0, e5, e6, XB.at, XB.2.1, hlt, hiC, c0, c1, c2, B.at, B.2.1, eq_true x1, eq_true x2, eq_true x3]
        exact hK _ _ (st.mono fun _ _ h => h.elim) ⟨XB, XP, XC⟩
      · have hne : (decide (x.1 = t.1) && (decide (x.2.1 = t.2.1) && decide (x.2.2 = t.2.2.1))) = false := cst_ne (b := cnst t) he
        simp (disch := first | omega | (simp only [e_ssz, e_psz, e_hszs, List.length_cons, List.length_nil]; try omega; done)) only [↓reduceIte, go_sem, klCTerm_L1, e0, e5, e6, XB.at, XB.2.1, hlt, hiC, c0, c1, c2, B.at, B.2.1, hne]
        refine ⟨i + 1, ?_, by omega⟩
        rw [hI]
        refine ⟨rfl, by simp [upd, e0], by simp [upd, e5], by simp [upd], hlt, ?_⟩
        rw [htk, List.mem_append, List.mem_singleton]
        exact fun h => h.elim hn (fun h => he h.symm)
    · obtain rfl : i = cs.length := by omega
      rw [List.take_length] at hn
      have hv : valT cs t = cs ++ [cnst t] := by unfold valT; rw [if_neg (fun h => h.elim hk hn)]
      rw [hv] at hK hpf
      obtain ⟨hxC, hiC⟩ := pfx_snoc hpf
      obtain ⟨qb, qo, rfl, hqb, hqu, hqz, hqr⟩ := XC.row _ _ hxC
      rw [rep_const] at hqr
      simp only [sz_const, hvs_3, List.cons.injEq, and_true, cnst] at hqr hqu hqz
      obtain ⟨c0, c1, c2⟩ := hqr
      simp (disch := first | omega | (simp only [e_ssz, e_psz, e_hszs, List.length_cons, List.length_nil]; try omega; done)) only [↓reduceIte, go_sem, klCTerm_L1, e0, e5, e6, XB.at, XB.2.1, XB.2.2.1, eq_false (show ¬ C.length ≤ cs.length by omega), hiC, c0, c1, c2, B.at, B.2.1]
      have sw : Step (fun j => j = bn) u2 h' u2 (hset h' bn 5 (.int .i64 ((cs.length : Int) + 1))) := Step.set u2 h' _ rfl (by rw [XB.2.2.2.1]; exact Nat.zero_le _)
      have XB2 := XB.set (i := 5) (v := .int .i64 ((cs.length : Int) + 1)) (by simp)
      exact hK _ _ ((st.mono fun _ _ h => h.elim).trans sw (fun _ _ h => h)) ⟨by simpa using XB2, XP.mono sw.ge, XC.mono sw.ge⟩
/-- Of an atom. -/
def C_catom (vs : List Value) (h : H) (K : Value → H → Prop) : Prop := ∃ (u : U) (bn : Nat) (pa ca : Option Addr) (pc cc : Nat) (vR vF : Value) (P : List Pred) (C : List Const) (ps : List Pred) (cs : List Const) (a : Atom) (l : List Value), vs = [.pointer (some ⟨bn, 0, none⟩), .agg l.toArray] ∧ Rep.rep u h a l ∧ CtS u h bn pa ca pc cc vR vF P C ps.length cs.length ∧
  namT ps a <+: P ∧ a.2.1.foldl valT cs <+: C ∧ (∀ n, (a.1, n) ∈ ps → n = a.2.1.length) ∧ P.length ≤ 1048576 ∧ C.length ≤ 1048576 ∧
  ∀ u' h', Step (fun i => i = bn) u h u' h' → CtS u' h' bn pa ca pc cc vR vF P C (namT ps a).length (a.2.1.foldl valT cs).length → K (.bool true) h'
def caT : S := sS (sS (sS (sS (sS klCAtom_S))))
theorem klCAtom_cut : klCAtom_S = .seq (sF klCAtom_S) (.seq (sF (sS klCAtom_S)) (.seq (sF (sS (sS klCAtom_S))) (.seq (sF (sS (sS (sS klCAtom_S)))) (.seq (sF (sS (sS (sS (sS klCAtom_S))))) caT)))) := rfl
def G_klCAtom : Ctr := fun f vs h K _ => f = 35 ∧ C_cterm vs h K
theorem G_klCAtom_ok : GOk Try.prog G_klCAtom := by
  rintro f vs h K KP ⟨rfl, hC⟩; exact klCTerm_ok hC
theorem klCAtom_ok {vs : List Value} {h : H} {K : Value → H → Prop} {KP : List PanicEntry → H → Prop} (hC : C_catom vs h K) : HCX Try.prog 11 vs h K KP := by
  obtain ⟨u, bn, pa, ca, pc, cc, vR, vF, P, C, ps, cs, a, l, rfl, hr, X, hpf, hcf, hag, hPl, hCl, hK⟩ := hC
  rw [rep_atom] at hr
  obtain ⟨av, rfl, hav⟩ := hr
  obtain ⟨aa, ac, rfl, q1, q2⟩ := hav.sl
  have hm := mlen'
  have hpp := (namT_pfx ps a).trans hpf
  have hpl := hpp.length_le
  refine klCAtom_H G_klCAtom G_klCAtom_ok _ _ ?_
  have hbn := X.1.1
  have sA := Step.push0 S0 u h #[str a.1, .slice aa a.2.1.length ac, .int .i64 a.2.2] 45
  have A : Blk (ub u h.size 0) (h.push (.cells #[str a.1, .slice aa a.2.1.length ac, .int .i64 a.2.2] 45)) h.size [str a.1, .slice aa a.2.1.length ac, .int .i64 a.2.2] := (Blk.mk (by simp only [e_psz]; omega) (by simp (disch := first | omega | (simp only [e_ssz, e_psz, e_hszs, List.length_cons, List.length_nil]; try omega; done)) only [go_sem]) (by simp (disch := first | omega | (simp only [e_ssz, e_psz, e_hszs, List.length_cons, List.length_nil]; try omega; done)) only [go_sem]) (by repeat (first | (refine ub_at ?_; simp only []; done) | apply ub_zero)) (by simp (disch := first | omega | (simp only [e_ssz, e_psz, e_hszs, List.length_cons, List.length_nil]; try omega; done)) only [go_sem]))
  have sB := Step.push0 S0 (ub u h.size 0) (h.push (.cells #[str a.1, .slice aa a.2.1.length ac, .int .i64 a.2.2] 45)) #[str a.1, .int .i64 a.2.1.length] 112
  have B : Blk (ub (ub u h.size 0) (h.push (.cells #[str a.1, .slice aa a.2.1.length ac, .int .i64 a.2.2] 45)).size 0) ((h.push (.cells #[str a.1, .slice aa a.2.1.length ac, .int .i64 a.2.2] 45)).push (.cells #[str a.1, .int .i64 a.2.1.length] 112)) (h.size + 1) [str a.1, .int .i64 a.2.1.length] := (Blk.mk (by simp only [e_psz]; omega) (by simp (disch := first | omega | (simp only [e_ssz, e_psz, e_hszs, List.length_cons, List.length_nil]; try omega; done)) only [go_sem]) (by simp (disch := first | omega | (simp only [e_ssz, e_psz, e_hszs, List.length_cons, List.length_nil]; try omega; done)) only [go_sem]) (by repeat (first | (refine ub_at ?_; simp only [e_psz]; done) | apply ub_zero)) (by simp (disch := first | omega | (simp only [e_ssz, e_psz, e_hszs, List.length_cons, List.length_nil]; try omega; done)) only [go_sem]))
  have A2 := A.step0 sB
  have X2 := (X.step sA (fun h => h)).step sB (fun h => h)
  have st := sA.trans0 sB
  have hav2 := hav.mono st.ge
  rw [klCAtom_cut]
  simp (disch := first | omega | (simp only [e_ssz, e_psz, e_hszs, List.length_cons, List.length_nil]; try omega; done)) only [↓reduceIte, go_sem, sF, sS, klCAtom_S]
  generalize ub (ub u h.size 0) (h.push (.cells #[str a.1, .slice aa a.2.1.length ac, .int .i64 a.2.2] 45)).size 0 = u2 at X2 A2 B st hav2
  generalize (h.push (.cells #[str a.1, .slice aa a.2.1.length ac, .int .i64 a.2.2] 45)).push (.cells #[str a.1, .int .i64 a.2.1.length] 112) = h2 at X2 A2 B st hav2 ⊢
  clear A sA sB
  obtain ⟨XB, XP, XC⟩ := X2
  have hxl := XB.1
  have hbl := B.1
  have hal := A2.1
  obtain ⟨q, hq⟩ : ∃ q : Pred, q = (a.1, (a.2.1.length : Int)) := ⟨_, rfl⟩
  obtain ⟨I, hI⟩ : ∃ I : Nat → Env → H → Prop, I = fun i σ h' => h' = h2 ∧ σ 0 = .pointer (some ⟨bn, 0, none⟩) ∧ σ 3 = .pointer (some ⟨h.size, 0, none⟩) ∧ σ 5 = .pointer (some ⟨h.size + 1, 0, none⟩) ∧ σ 6 = .bool (decide (q ∈ ps.take i)) ∧ σ 7 = .int .i64 i ∧ i ≤ ps.length := ⟨_, rfl⟩
  refine wpS_loop I (fun i => ps.length - i) 0 (by rw [hI]; exact ⟨rfl, by simp [upd], by simp [upd], by simp [upd], by simp [upd], by simp [upd], Nat.zero_le _⟩) ?_
  intro i σ h' hy
  rw [hI] at hy
  obtain ⟨rfl, e0, e3, e5, e6, e7, hi⟩ := hy
  by_cases hlt : i < ps.length
  · obtain ⟨x, hx⟩ : ∃ x, ps[i]? = some x := ⟨ps[i], by simp [hlt]⟩
    have hxP : P[i]? = some x := by rw [pfx_get hpp hlt]; exact hx
    have hiP := (List.getElem?_eq_some_iff.1 hxP).1
    have htk : ps.take (i + 1) = ps.take i ++ [x] := by rw [List.take_add_one, hx]; rfl
    obtain ⟨qb, qo, rfl, hqb, hqu, hqz, hqr⟩ := XP.row i x hxP
    rw [rep_pred] at hqr
    simp only [sz_pred, hvs_2, List.cons.injEq, and_true] at hqr hqu hqz
    obtain ⟨c0, c1⟩ := hqr
    have next : ∀ (σ' : Env), σ' 0 = σ 0 → σ' 3 = σ 3 → σ' 5 = σ 5 → σ' 6 = .bool (decide (q ∈ ps.take (i + 1))) → σ' 7 = .int .i64 ((i : Int) + 1) → ∃ y, I y σ' h' ∧ ps.length - y < ps.length - i := fun σ' g0 g3 g5 g6 g7 => by
      refine ⟨i + 1, ?_, by omega⟩
      rw [hI]
      exact ⟨rfl, by rw [g0, e0], by rw [g3, e3], by rw [g5, e5], g6, g7, hlt⟩
    by_cases hin : q ∈ ps.take i
    · rw [decide_eq_true hin] at e6
      have hin2 : q ∈ ps.take (i + 1) := by rw [htk]; exact List.mem_append.2 (.inl hin)
      simp (disch := first | omega | (simp only [e_ssz, e_psz, e_hszs, List.length_cons, List.length_nil]; try omega; done)) only [↓reduceIte, go_sem, klCAtom_L1, e0, e5, e6, e7, XB.at, XB.2.1, hlt]
      exact next _ (by simp [upd]) (by simp [upd]) (by simp [upd]) (by rw [decide_eq_true hin2]; simp [upd]) (by simp [upd])
    · rw [decide_eq_false hin] at e6
      by_cases he : x = q
      · have hin2 : q ∈ ps.take (i + 1) := by rw [htk, he]; simp
        rw [hq] at he
        have x1 : x.1 = a.1 := congrArg (fun c : Pred => c.1) he
        have x2 : x.2 = a.2.1.length := congrArg (fun c : Pred => c.2) he
        simp (disch := first | omega | (simp only [e_ssz, e_psz, e_hszs, List.length_cons, List.length_nil]; try omega; done)) only [↓reduceIte, go_sem, klCAtom_L1, e0, e5, e6, e7, XB.at, XB.2.1, hlt, hiP, c0, c1, B.at, B.2.1, eq_true x1, eq_true x2]
        exact next _ (by simp [upd]) (by simp [upd]) (by simp [upd]) (by rw [decide_eq_true hin2]; simp [upd]) (by simp [upd])
      · have hin2 : q ∉ ps.take (i + 1) := by rw [htk, List.mem_append, List.mem_singleton]; exact fun h => h.elim hin (fun h => he h.symm)
        have hne : (decide (x.1 = a.1) && decide (x.2 = (a.2.1.length : Int))) = false := prd_ne (b := (a.1, (a.2.1.length : Int))) (by rw [← hq]; exact he)
        simp (disch := first | omega | (simp only [e_ssz, e_psz, e_hszs, List.length_cons, List.length_nil]; try omega; done)) only [↓reduceIte, go_sem, klCAtom_L1, e0, e5, e6, e7, XB.at, XB.2.1, hlt, hiP, c0, c1, B.at, B.2.1, hne]
        exact next _ (by simp [upd]) (by simp [upd]) (by simp [upd]) (by rw [decide_eq_false hin2]; simp [upd]) (by simp [upd])
  · obtain rfl : i = ps.length := by omega
    rw [List.take_length] at e6
    clear hI
    -- the terms
    have go : ∀ (σ : Env) (u3 : U) (h3 : H), σ 0 = .pointer (some ⟨bn, 0, none⟩) → σ 3 = .pointer (some ⟨h.size, 0, none⟩) → Step (fun j => j = bn) u h u3 h3 → CtS u3 h3 bn pa ca pc cc vR vF P C (namT ps a).length cs.length → Blk u3 h3 h.size [str a.1, .slice aa a.2.1.length ac, .int .i64 a.2.2] → IsSl u3 h3 (.slice aa a.2.1.length ac) a.2.1 → wpS G_klCAtom caT (retQ klCAtom_E (callK K KP)) σ h3 := fun σ u3 h3 e0 e3 s3 X3 A3 hav3 => by
      simp (disch := first | omega | (simp only [e_ssz, e_psz, e_hszs, List.length_cons, List.length_nil]; try omega; done)) only [go_sem, caT, sS, klCAtom_S]
      obtain ⟨J, hJ⟩ : ∃ J : Nat → Env → H → Prop, J = fun j σ h' => σ 0 = .pointer (some ⟨bn, 0, none⟩) ∧ σ 3 = .pointer (some ⟨h.size, 0, none⟩) ∧ σ 8 = .int .i64 j ∧ j ≤ a.2.1.length ∧ ∃ u', Step (fun j => j = bn) u h u' h' ∧ CtS u' h' bn pa ca pc cc vR vF P C (namT ps a).length ((a.2.1.take j).foldl valT cs).length ∧ Blk u' h' h.size [str a.1, .slice aa a.2.1.length ac, .int .i64 a.2.2] ∧ IsSl u' h' (.slice aa a.2.1.length ac) a.2.1 := ⟨_, rfl⟩
      refine wpS_loop J (fun j => a.2.1.length - j) 0 (by rw [hJ]; exact ⟨by simp [upd, e0], by simp [upd, e3], by simp [upd], Nat.zero_le _, u3, s3, X3, A3, hav3⟩) ?_
      clear e0 e3 s3 X3 A3 hav3 e5 e6 e7
      clear u3 h3 σ
      intro j σ h4 hy
      rw [hJ] at hy
      obtain ⟨e0, e3, e8, hj, u4, s4, X4, A4, hav4⟩ := hy
      have ha4 := A4.1
      by_cases hlt : j < a.2.1.length
      · obtain ⟨t, ht⟩ : ∃ t, a.2.1[j]? = some t := ⟨a.2.1[j], by simp [hlt]⟩
        have hsn := fold_snoc (f := valT) (b := cs) ht
        have hpre : (a.2.1.take (j + 1)).foldl valT cs <+: C := by
          have e : a.2.1.foldl valT cs = (a.2.1.drop (j + 1)).foldl valT ((a.2.1.take (j + 1)).foldl valT cs) := by rw [← List.foldl_append, List.take_append_drop]
          rw [e] at hcf
          exact (valsT_pfx _ _).trans hcf
        obtain ⟨tb, to, rfl, htb, htu, htz, htr⟩ := hav4.row j t ht
        rw [rep_term] at htr
        simp only [Term.enc, sz_term, hvs_4, List.cons.injEq, and_true] at htr htu htz
        obtain ⟨t0, t1, t2, t3⟩ := htr
        simp (disch := first | omega | (simp only [e_ssz, e_psz, e_hszs, List.length_cons, List.length_nil]; try omega; done)) only [↓reduceIte, go_sem, klCAtom_L2, e0, e3, e8, A4.at, A4.2.1, hlt, t0, t1, t2, t3]
        refine effS_call ⟨rfl, u4, bn, pa, ca, pc, cc, vR, vF, P, C, _, _, t, rfl, X4, by rw [← hsn]; exact hpre, hCl, fun u5 h5 s5 X5 => ⟨by simp (disch := first | omega | (simp only [e_ssz, e_psz, e_hszs, List.length_cons, List.length_nil]; try omega; done)) only [go_sem], ?_⟩⟩
        rw [← hsn] at X5
        simp (disch := first | omega | (simp only [e_ssz, e_psz, e_hszs, List.length_cons, List.length_nil]; try omega; done)) only [↓reduceIte, go_sem, e8]
        refine ⟨j + 1, ?_, by omega⟩
        rw [hJ]
        exact ⟨by simp [upd, e0], by simp [upd, e3], by simp [upd], hlt, u5, s4.trans s5 (fun _ _ h => h), X5, A4.step s5 (fun e => by have e : h.size = bn := e; omega), hav4.mono s5.ge⟩
      · obtain rfl : j = a.2.1.length := by omega
        rw [List.take_length] at X4
        simp (disch := first | omega | (simp only [e_ssz, e_psz, e_hszs, List.length_cons, List.length_nil]; try omega; done)) only [↓reduceIte, go_sem, klCAtom_L2, klCAtom_E, e3, e8, A4.at, A4.2.1]
        exact hK _ _ s4 X4
    by_cases hin : q ∈ ps
    · rw [decide_eq_true hin] at e6
      have hnt : namT ps a = ps := by unfold namT; rw [if_pos (List.mem_map.2 ⟨q, hin, by rw [hq]⟩)]
      rw [hnt] at go
      simp (disch := first | omega | (simp only [e_ssz, e_psz, e_hszs, List.length_cons, List.length_nil]; try omega; done)) only [↓reduceIte, go_sem, klCAtom_L1, e0, e6, e7, XB.at, XB.2.1]
      exact go _ u2 h' (by simp [upd, e0]) (by simp [upd, e3]) (st.mono fun _ _ h => h.elim) ⟨XB, XP, XC⟩ A2 hav2
    · rw [decide_eq_false hin] at e6
      have hnm : a.1 ∉ ps.map (·.1) := fun hmm => by
        obtain ⟨y, hy, hya⟩ := List.mem_map.1 hmm
        have := hag y.2 (by rw [← hya]; exact hy)
        exact hin (by rw [hq, ← hya, ← this]; exact hy)
      have hnt : namT ps a = ps ++ [q] := by unfold namT; rw [if_neg hnm, hq]
      rw [hnt] at hpf
      obtain ⟨hxP, hiP⟩ := pfx_snoc hpf
      obtain ⟨qb, qo, rfl, hqb, hqu, hqz, hqr⟩ := XP.row _ _ hxP
      rw [rep_pred] at hqr
      simp only [sz_pred, hvs_2, List.cons.injEq, and_true, hq] at hqr hqu hqz
      obtain ⟨c0, c1⟩ := hqr
      simp (disch := first | omega | (simp only [e_ssz, e_psz, e_hszs, List.length_cons, List.length_nil]; try omega; done)) only [↓reduceIte, go_sem, klCAtom_L1, e0, e5, e6, e7, XB.at, XB.2.1, XB.2.2.1, eq_false (show ¬ P.length ≤ ps.length by omega), hiP, c0, c1, B.at, B.2.1]
      have sw : Step (fun j => j = bn) u2 h' u2 (hset h' bn 4 (.int .i64 ((ps.length : Int) + 1))) := Step.set u2 h' _ rfl (by rw [XB.2.2.2.1]; exact Nat.zero_le _)
      have XB2 := XB.set (i := 4) (v := .int .i64 ((ps.length : Int) + 1)) (by simp)
      exact go _ u2 _ (by simp [upd, e0]) (by simp [upd, e3]) ((st.mono fun _ _ h => h.elim).trans sw (fun _ _ h => h)) ⟨by rw [hnt]; simpa using XB2, XP.mono sw.ge, XC.mono sw.ge⟩ (A2.step sw (fun e => by have e : h.size = bn := e; omega)) (hav2.mono sw.ge)
end Go.Proofs.Ytkobamedfbgjbaa
