/- The laws of core: the maker's atoms. -/
import Derived.Test.YtkobamedfbgjbaaKlB
import Derived.Test.YtkobamedfbgjbaaKrQ
namespace Edict
def mkF (bd : Bool) (l : Strs) (ts : List Term) : List Term := if bd then freeL l ts else ts.map (tiedF l)
def mkV (bd : Bool) (l : Strs) (ts : List Term) : Strs := if bd then ts.foldl freeV l else l
def mkT (bd : Bool) (l : Strs) (t : Term) : Term := if bd then freeF l t else tiedF l t
def mkW (bd : Bool) (l : Strs) (t : Term) : Strs := if bd then freeV l t else l
theorem mkF_cons (bd : Bool) (l : Strs) (t : Term) (ts : List Term) : mkF bd l (t :: ts) = mkT bd l t :: mkF bd (mkW bd l t) ts := by cases bd <;> rfl
theorem mkV_cons (bd : Bool) (l : Strs) (t : Term) (ts : List Term) : mkV bd l (t :: ts) = mkV bd (mkW bd l t) ts := by cases bd <;> rfl
theorem mkF_nil (bd : Bool) (l : Strs) : mkF bd l [] = [] := by cases bd <;> rfl
theorem mkV_nil (bd : Bool) (l : Strs) : mkV bd l [] = l := by cases bd <;> rfl
theorem atomM_eq (bd : Bool) (l : Strs) (a : Atom) : atomM bd l a = (predF a.1 (a.2.1.take 8).length, mkF bd l (a.2.1.take 8), a.2.2) := rfl
theorem atomV_eq (bd : Bool) (l : Strs) (a : Atom) : atomV bd l a = mkV bd l (a.2.1.take 8) := rfl
end Edict
namespace Go.Proofs.Ytkobamedfbgjbaa
open Go Go.Ev Edict
def AtB (a : Atom) : Prop := SizB a.1 ∧ ∀ t ∈ a.2.1, SizB t.2.2.1
def C_mAtom (vs : List Value) (h : H) (K : Value → H → Prop) : Prop := ∃ (k : Nat) (u : U) (bm : Nat) (vV : Value) (l : Strs) (a : Atom) (c : List Value) (bd : Bool), vs = [.pointer (some ⟨bm, 0, none⟩), .agg c.toArray, .bool bd] ∧ Rep.rep u h a c ∧ AtB a ∧ MkS k u h bm vV l ∧ l.length ≤ 16 ∧
  ∀ u' h' vV' c', Step (fun i => bd = true ∧ MkB bm vV i) u h u' h' → MkS k u' h' bm vV' (atomV bd l a) → (∀ i, OwnB vV' i → OwnB vV i ∨ h.size ≤ i) → (bd = false → vV' = vV) → Rep.rep u' h' (atomM bd l a) c' → K (.agg c'.toArray) h'
def G_klAtom : Ctr := fun f vs h K _ => (f = 47 ∧ C_free vs h K) ∨ (f = 45 ∧ C_tied vs h K) ∨ (f = 46 ∧ C_klPred vs h K)
theorem G_klAtom_ok : GOk Try.prog G_klAtom := by
  rintro f vs h K KP (⟨rfl, hC⟩ | ⟨rfl, hC⟩ | ⟨rfl, hC⟩)
  · exact klFree_ok hC
  · exact klTied_ok hC
  · exact klPred_ok hC
theorem klAtom_ok {vs : List Value} {h : H} {K : Value → H → Prop} {KP : List PanicEntry → H → Prop} (hC : C_mAtom vs h K) : HCX Try.prog 24 vs h K KP := by
  obtain ⟨k, u, bm, vV, l, a, c, bd, rfl, hr, hAB, M0, hl16, hK⟩ := hC
  rw [rep_atom] at hr
  obtain ⟨av, rfl, hav⟩ := hr
  obtain ⟨aa, ac, rfl, q1, q2⟩ := hav.sl
  have hm := mlen'
  obtain ⟨TS, hTS⟩ : ∃ TS, TS = a.2.1.take 8 := ⟨_, rfl⟩
  have hn8 : TS.length ≤ 8 := by rw [hTS]; exact take8 _
  have hmin : TS.length = if 8 < a.2.1.length then 8 else a.2.1.length := by rw [hTS, List.length_take]; split <;> omega
  refine klAtom_H G_klAtom G_klAtom_ok _ _ _ ?_
  have hbl := M0.1.1
  have sA := Step.push0 S0 u h #[str a.1, .slice aa a.2.1.length ac, .int .i64 a.2.2] 45
  have A : Blk (ub u h.size 0) (h.push (.cells #[str a.1, .slice aa a.2.1.length ac, .int .i64 a.2.2] 45)) h.size [str a.1, .slice aa a.2.1.length ac, .int .i64 a.2.2] := (Blk.mk (by simp only [e_psz]; omega) (by simp (disch := first | omega | (simp only [zz]; try omega; done)) only [go_sem]) (by simp (disch := first | omega | (simp only [zz]; try omega; done)) only [go_sem]) (by repeat (first | (refine ub_at ?_; simp only []; done) | apply ub_zero)) (by simp (disch := first | omega | (simp only [zz]; try omega; done)) only [go_sem]))
  have sB := Step.push0 S0 (ub u h.size 0) (h.push (.cells #[str a.1, .slice aa a.2.1.length ac, .int .i64 a.2.2] 45)) #[str [], .slice none 0 0, .int .i64 0] 45
  have R : Blk (ub (ub u h.size 0) (h.push (.cells #[str a.1, .slice aa a.2.1.length ac, .int .i64 a.2.2] 45)).size 0) ((h.push (.cells #[str a.1, .slice aa a.2.1.length ac, .int .i64 a.2.2] 45)).push (.cells #[str [], .slice none 0 0, .int .i64 0] 45)) (h.size + 1) [str [], .slice none 0 0, .int .i64 0] := (Blk.mk (by simp only [e_psz]; omega) (by simp (disch := first | omega | (simp only [zz]; try omega; done)) only [go_sem]) (by simp (disch := first | omega | (simp only [zz]; try omega; done)) only [go_sem]) (by repeat (first | (refine ub_at ?_; simp only [e_psz]; done) | apply ub_zero)) (by simp (disch := first | omega | (simp only [zz]; try omega; done)) only [go_sem]))
  have A1 := A.step0 sB
  have st1 := sA.trans0 sB
  have M1 := M0.step st1 (fun _ _ h => h)
  generalize ub (ub u h.size 0) (h.push (.cells #[str a.1, .slice aa a.2.1.length ac, .int .i64 a.2.2] 45)).size 0 = u1 at A1 R st1 M1
  obtain ⟨h1, hh1⟩ : ∃ h1, h1 = (h.push (.cells #[str a.1, .slice aa a.2.1.length ac, .int .i64 a.2.2] 45)).push (.cells #[str [], .slice none 0 0, .int .i64 0] 45) := ⟨_, rfl⟩
  have hs1 : h1.size = h.size + 2 := by rw [hh1]; simp only [e_psz]
  have hmm : (if (8 : Int) < a.2.1.length then (8 : Int) else a.2.1.length) = TS.length := by rw [hmin]; split <;> split <;> omega
  simp (disch := first | omega | (simp only [zz]; try omega; done)) only [↓reduceIte, go_sem, klAtom_S, klAtom_E, hmm]
  generalize hσ : upd (upd (upd (upd (upd (upd env0 0 (.pointer (some ⟨bm, 0, none⟩))) 1 (.agg #[str a.1, .slice aa a.2.1.length ac, .int .i64 a.2.2])) 2 (.bool bd)) 4 (.pointer (some ⟨h.size, 0, none⟩))) 6 (.pointer (some ⟨h.size + 1, 0, none⟩))) 7 (.int .i64 TS.length) = σ0
  have g0 : σ0 0 = .pointer (some ⟨bm, 0, none⟩) := by rw [← hσ]; simp [upd]
  have g2 : σ0 2 = .bool bd := by rw [← hσ]; simp [upd]
  have g4 : σ0 4 = .pointer (some ⟨h.size, 0, none⟩) := by rw [← hσ]; simp [upd]
  have g6 : σ0 6 = .pointer (some ⟨h.size + 1, 0, none⟩) := by rw [← hσ]; simp [upd]
  have g7 : σ0 7 = .int .i64 TS.length := by rw [← hσ]; simp [upd]
  clear hσ
  rw [← hh1] at A1 R st1 M1 ⊢
  clear hh1 sA sB A
  obtain ⟨p4, hp4⟩ : ∃ p4, p4 = h.size := ⟨_, rfl⟩
  obtain ⟨p6, hp6⟩ : ∃ p6, p6 = h.size + 1 := ⟨_, rfl⟩
  rw [← hp4] at g4
  rw [← hp6] at g6
  have A1 : Blk u1 h1 p4 [str a.1, .slice aa a.2.1.length ac, .int .i64 a.2.2] := by rw [hp4]; exact A1
  have R : Blk u1 h1 p6 [str [], .slice none 0 0, .int .i64 0] := by rw [hp6]; exact R
  have ha1 := A1.1
  have hr1 := R.1
  refine w_join (fun σ' h2 => keepE σ0 σ' [0, 2, 4, 6, 7] ∧ ∃ (u2 : U) (p8 : Nat), Step S0 u1 h1 u2 h2 ∧ σ' 8 = .pointer (some ⟨p8, 0, none⟩) ∧ h1.size ≤ p8 ∧ Blk u2 h2 p8 [str (predF a.1 TS.length), .slice none 0 0, .int .i64 a.2.2]) ?_ ?_
  · simp (disch := first | omega | (simp only [zz]; try omega; done)) only [↓reduceIte, go_sem, w_both, g0, g2, g4, g6, g7, A1.at, A1.2.1]
    have sN := Step.push0 S0 u1 h1 #[str [], .slice none 0 0, .int .i64 0] 45
    have N : Blk (ub u1 h1.size 0) (h1.push (.cells #[str [], .slice none 0 0, .int .i64 0] 45)) h1.size [str [], .slice none 0 0, .int .i64 0] := (Blk.mk (by simp only [e_psz]; omega) (by simp (disch := first | omega | (simp only [zz]; try omega; done)) only [go_sem]) (by simp (disch := first | omega | (simp only [zz]; try omega; done)) only [go_sem]) (by repeat (first | (refine ub_at ?_; simp only []; done) | apply ub_zero)) (by simp (disch := first | omega | (simp only [zz]; try omega; done)) only [go_sem]))
    have B1 := A1.step0 sN
    have hb1 := B1.1
    refine ⟨effS_call (.inr (.inr ⟨rfl, u1, a.1, TS.length, rfl, hAB.1, hn8, fun u2 h2 s2 => ?_⟩)), effS_call (.inr (.inr ⟨rfl, ub u1 h1.size 0, a.1, TS.length, rfl, hAB.1, hn8, fun u2 h2 s2 => ?_⟩))⟩
    · have A2 := A1.step0 s2
      have ha2 := A2.1
      have hz2 := s2.ge.sz
      refine ⟨by simp (disch := first | omega | (simp only [zz]; try omega; done)) only [↓reduceIte, go_sem, g4, A1.at, A2.at, A2.2.1], ?_⟩
      simp (disch := first | omega | (simp only [zz]; try omega; done)) only [↓reduceIte, go_sem, g0, g2, g4, g6, g7, A2.at, A2.2.1]
      exact ⟨_, s2.trans0 (Step.push0 S0 u2 h2 _ _), hz2, (Blk.mk (by simp only [e_psz]; omega) (by simp (disch := first | omega | (simp only [zz]; try omega; done)) only [go_sem]) (by simp (disch := first | omega | (simp only [zz]; try omega; done)) only [go_sem]) (by repeat (first | (refine ub_at ?_; simp only []; done) | apply ub_zero)) (by simp (disch := first | omega | (simp only [zz]; try omega; done)) only [go_sem]))⟩
    · have A2 := B1.step0 s2
      have N2 := N.step0 s2
      have ha2 := A2.1
      have hn2 := N2.1
      refine ⟨by simp (disch := first | omega | (simp only [zz]; try omega; done)) only [↓reduceIte, go_sem, g4, A1.at, A2.at, A2.2.1], ?_⟩
      simp (disch := first | omega | (simp only [zz]; try omega; done)) only [↓reduceIte, go_sem, g0, g2, g4, g6, g7, N2.2.1, N2.2.2.1]
      have sw : Step (fun j => j = h1.size) u2 h2 u2 (hsets h2 h1.size 0 [str (predF a.1 TS.length), .slice none 0 0, .int .i64 a.2.2]) := Step.sets u2 h2 _ rfl (by rw [N2.2.2.2.1]; exact Nat.le_refl _) (by rw [N2.2.1]; exact Nat.le_refl _)
      exact ⟨_, (sN.trans0 s2).trans sw (fun j hj e => by have e : j = h1.size := e; omega), Nat.le_refl _, N2.sets (l := [str (predF a.1 TS.length), .slice none 0 0, .int .i64 a.2.2]) rfl⟩
  rintro σ1 h2 ⟨hkE, u2, p8, s2, e8, hp8, P8⟩
  simp (disch := first | omega | (simp only [zz]; try omega; done)) only [go_sem, g0, g2, g4, g6, g7] at hkE
  obtain ⟨k0, k2, k4, k6, k7⟩ := hkE
  have P4 := A1.step0 s2
  have P6 := R.step0 s2
  have M2 := M1.step s2 (fun _ _ h => h)
  have st2 := st1.trans0 s2
  simp (disch := first | omega | (simp only [zz]; try omega; done)) only [go_sem]
  obtain ⟨I, hI⟩ : ∃ I : Nat → Env → H → Prop, I = fun i σ h' => σ 0 = .pointer (some ⟨bm, 0, none⟩) ∧ σ 2 = .bool bd ∧ σ 4 = .pointer (some ⟨p4, 0, none⟩) ∧ σ 6 = .pointer (some ⟨p6, 0, none⟩) ∧ σ 7 = .int .i64 TS.length ∧ σ 8 = .pointer (some ⟨p8, 0, none⟩) ∧ σ 9 = .int .i64 i ∧ i ≤ TS.length ∧
    ∃ (u' : U) (vVi : Value) (li : Strs) (vA : Value) (acc : List Term), Step (fun j => bd = true ∧ MkB bm vV j) u h u' h' ∧ MkS k u' h' bm vVi li ∧ (∀ j, OwnB vVi j → OwnB vV j ∨ h.size ≤ j) ∧ (bd = false → vVi = vV ∧ li = l) ∧ Own h.size u' h' vA acc ∧ Blk u' h' p4 [str a.1, .slice aa a.2.1.length ac, .int .i64 a.2.2] ∧ Blk u' h' p6 [str [], .slice none 0 0, .int .i64 0] ∧
      Blk u' h' p8 [str (predF a.1 TS.length), vA, .int .i64 a.2.2] ∧ (∀ j, OwnB vA j → j ≠ p4 ∧ j ≠ p6 ∧ j ≠ p8 ∧ ¬ MkB bm vVi j) ∧ (∀ j, OwnB vVi j → j ≠ p4 ∧ j ≠ p6 ∧ j ≠ p8) ∧ mkF bd l TS = acc ++ mkF bd li (TS.drop i) ∧ mkV bd l TS = mkV bd li (TS.drop i) ∧ acc.length = i ∧ li.length ≤ 16 := ⟨_, rfl⟩
  refine wpS_loop I (fun i => TS.length - i) 0 (by
    rw [hI]
    exact ⟨by simp [upd, k0], by simp [upd, k2], by simp [upd, k4], by simp [upd, k6], by simp [upd, k7], by simp [upd, e8], by simp [upd], Nat.zero_le _, u2, vV, l, _, [], st2.mono (fun _ _ h => h.elim), M2, fun j hj => .inl hj, fun _ => ⟨rfl, rfl⟩, .nil _ _ _, P4, P6, P8, fun j hj => absurd hj ownb_none, fun j hj => by have := M0.2.1.lt hj; omega, rfl, rfl, rfl, hl16⟩) ?_
  have hp : h.size ≤ p4 ∧ h.size ≤ p6 ∧ h.size ≤ p8 ∧ p4 ≠ bm ∧ p6 ≠ bm ∧ p8 ≠ bm ∧ p4 ≠ p6 ∧ p4 ≠ p8 ∧ p6 ≠ p8 := by omega
  clear P4 P6 P8 M2 st2 k0 k2 k4 k6 k7 e8 s2 hp8 A1 R st1 M1 g0 g2 g4 g6 g7 ha1 hr1 hs1
  intro i σ h' hy
  rw [hI] at hy
  obtain ⟨e0, e2, e4, e6, e7, e8, e9, hi, u', vVi, li, vA, acc, st, M, hVi, hVs, ho, P4, P6, P8, nA, nV, hF, hV, hal, hl16⟩ := hy
  have h41 := P4.1
  have h61 := P6.1
  have h81 := P8.1
  have hz := st.ge.sz
  by_cases hlt : i < TS.length
  · obtain ⟨t, hs⟩ : ∃ t, TS[i]? = some t := ⟨TS[i], by simp [hlt]⟩
    have hdr : TS.drop i = t :: TS.drop (i + 1) := by
      obtain ⟨hi', rfl⟩ := List.getElem?_eq_some_iff.1 hs
      exact List.drop_eq_getElem_cons hi'
    rw [hdr, mkF_cons] at hF
    rw [hdr, mkV_cons] at hV
    have hil : i < a.2.1.length := by rw [hmin] at hlt; split at hlt <;> omega
    have hsa : a.2.1[i]? = some t := by rw [hTS, List.getElem?_take] at hs; split at hs; exact hs; cases hs
    have hst := hAB.2 t (List.mem_of_getElem? hsa)
    obtain ⟨tb, to, rfl, htb, htu, htz, htr⟩ := (hav.mono st.ge).row i t hsa
    rw [rep_term] at htr
    simp only [Term.enc, sz_term, hvs_4, List.cons.injEq, and_true] at htr htu htz
    obtain ⟨t0, t1, t2, t3⟩ := htr
    cases bd with
    | true =>
      simp (disch := first | omega | (simp only [zz]; try omega; done)) only [↓reduceIte, go_sem, klAtom_L1, e0, e2, e4, e7, e8, e9, eq_true (show (i : Int) < (TS.length : Nat) by omega), P4.at, P4.2.1, P8.at, P8.2.1, hil, t0, t1, t2, t3]
      refine effS_call (.inl ⟨rfl, k, u', bm, vVi, li, t, rfl, hst, M, hl16, fun u2 h2 vV2 s2 M2 b2 => ?_⟩)
      have s2' : Step (MkB bm vVi) u' h' u2 h2 := s2
      have hW : mkW true li t = freeV li t := rfl
      have hX : mkT true li t = freeF li t := rfl
      have hl2 : (mkW true li t).length ≤ 16 := freeV_len hl16 t
      have A2 := ho.step s2 (fun j hj hm => nA j hj |>.2.2.2 hm)
      have Q4 := P4.step s2 (fun hj => hj.elim (fun e => hp.2.2.2.1 e) (fun hj => (nV _ hj).1 rfl))
      have Q6 := P6.step s2 (fun hj => hj.elim (fun e => hp.2.2.2.2.1 e) (fun hj => (nV _ hj).2.1 rfl))
      have Q8 := P8.step s2 (fun hj => hj.elim (fun e => hp.2.2.2.2.2.1 e) (fun hj => (nV _ hj).2.2 rfl))
      have st2 : Step (fun j => true = true ∧ MkB bm vV j) u h u2 h2 := st.trans s2 (fun j hj hm => ⟨rfl, hm.elim .inl fun hm => .inr ((hVi j hm).elim id fun h => by omega)⟩)
      have V2 : ∀ j, OwnB vV2 j → OwnB vV j ∨ h.size ≤ j := fun j hj => (b2 j hj).elim (hVi j) (fun h => .inr (by omega))
      have nV2 : ∀ j, OwnB vV2 j → j ≠ p4 ∧ j ≠ p6 ∧ j ≠ p8 := fun j hj => (b2 j hj).elim (nV j) (fun h => by have := P4.1; have := P6.1; have := P8.1; omega)
      have nA2 : ∀ j, OwnB vA j → j ≠ p4 ∧ j ≠ p6 ∧ j ≠ p8 ∧ ¬ MkB bm vV2 j := fun j hj => ⟨(nA j hj).1, (nA j hj).2.1, (nA j hj).2.2.1, fun hm => (nA j hj).2.2.2 (hm.elim .inl fun hm => (b2 j hm).elim .inr fun h => by have := ho.lt hj; omega)⟩
      have hsame : true = false → vV2 = vV ∧ mkW true li t = l := fun h => by cases h
      have hq8 := Q8.1
      have hz2 := st2.ge.sz
      refine ⟨by simp (disch := first | omega | (simp only [zz]; try omega; done)) only [↓reduceIte, go_sem, e8, P8.at, Q8.at, Q8.2.1], ?_⟩
      simp only [Term.enc]
      simp (disch := first | omega | (simp only [zz]; try omega; done)) only [↓reduceIte, go_sem, e8, Q8.at, Q8.2.1]
      refine effS_app1o rfl A2 (x := mkT true li t) (cs := Term.enc (mkT true li t)) (by rw [rep_term]) rfl rfl hz2 (by omega) fun a3 n3 c3 u3 h3 o3 s3 b3 => ⟨by simp (disch := first | omega | (simp only [zz]; try omega; done)) only [go_sem], ?_⟩
      have R8 := Q8.step s3 (fun hj => (nA2 _ hj).2.2.1 rfl)
      have R4 := Q4.step s3 (fun hj => (nA2 _ hj).1 rfl)
      have R6 := Q6.step s3 (fun hj => (nA2 _ hj).2.1 rfl)
      have M3 := M2.step s3 (fun j hj hA => (nA2 j hA).2.2.2 hj)
      have nA3 : ∀ j, OwnB (.slice a3 n3 c3) j → j ≠ p4 ∧ j ≠ p6 ∧ j ≠ p8 ∧ ¬ MkB bm vV2 j := fun j hj => (b3 j hj).elim (nA2 j) (fun h => ⟨by have := Q4.1; omega, by have := Q6.1; omega, by omega, fun hm => by have := (M2.ge hm).2; omega⟩)
      have st3 : Step (fun j => true = true ∧ MkB bm vV j) u h u3 h3 := st2.trans s3 (fun j hj hB => by have := ho.ge hB; omega)
      have sw : Step (fun j => j = p8) u3 h3 u3 (hset h3 p8 1 (.slice a3 n3 c3)) := Step.set u3 h3 _ rfl (by rw [R8.2.2.2.1]; exact Nat.zero_le _)
      have hr8 := R8.1
      have hx8 := R8.2.1
      have hy8 := R8.2.2.1
      simp (disch := first | omega | (simp only [zz]; try omega; done)) only [↓reduceIte, go_sem, e8, e9, hx8, hy8]
      refine ⟨i + 1, ?_, by omega⟩
      rw [hI]
      refine ⟨by simp [upd, e0], by simp [upd, e2], by simp [upd, e4], by simp [upd, e6], by simp [upd, e7], by simp [upd, e8], by simp [upd], hlt, u3, vV2, mkW true li t, _, _, st3.trans sw (fun j hj e => by have e : j = p8 := e; omega), M3.step sw (fun j hj e => ?_), V2, hsame, o3.step sw (fun j hj e => (nA3 j hj).2.2.1 e), R4.step sw (fun e => hp.2.2.2.2.2.2.2.1 e), R6.step sw (fun e => hp.2.2.2.2.2.2.2.2 e), R8.set (i := 1) (v := .slice a3 n3 c3) (by simp), nA3, nV2, ?_, ?_, by simp [hal], hl2⟩
      · have e : j = p8 := e
        rcases hj with hj | hj
        · exact hp.2.2.2.2.2.1 (e.symm.trans hj)
        · exact (nV2 j hj).2.2 e
      · rw [hF]; simp
      · exact hV
    | false =>
      simp (disch := first | omega | (simp only [zz]; try omega; done)) only [↓reduceIte, go_sem, klAtom_L1, e0, e2, e4, e7, e8, e9, eq_true (show (i : Int) < (TS.length : Nat) by omega), P4.at, P4.2.1, P8.at, P8.2.1, hil, t0, t1, t2, t3]
      refine effS_call (.inr (.inl ⟨rfl, k, u', bm, vVi, li, t, rfl, hst, M, fun u2 h2 s2 => ?_⟩))
      have hX : mkT false li t = tiedF li t := rfl
      have hl2 : (mkW false li t).length ≤ 16 := hl16
      have M2 := M.step s2 (fun _ _ h => h)
      have A2 := ho.step0 s2
      have Q4 := P4.step0 s2
      have Q6 := P6.step0 s2
      have Q8 := P8.step0 s2
      have st2 : Step (fun j => false = true ∧ MkB bm vV j) u h u2 h2 := st.trans s2 (fun j hj hm => hm.elim)
      have V2 := hVi
      have nV2 := nV
      have nA2 := nA
      have hsame : false = false → vVi = vV ∧ mkW false li t = l := hVs
      have hq8 := Q8.1
      have hz2 := st2.ge.sz
      refine ⟨by simp (disch := first | omega | (simp only [zz]; try omega; done)) only [↓reduceIte, go_sem, e8, P8.at, Q8.at, Q8.2.1], ?_⟩
      simp only [Term.enc]
      simp (disch := first | omega | (simp only [zz]; try omega; done)) only [↓reduceIte, go_sem, e8, Q8.at, Q8.2.1]
      refine effS_app1o rfl A2 (x := mkT false li t) (cs := Term.enc (mkT false li t)) (by rw [rep_term]) rfl rfl hz2 (by omega) fun a3 n3 c3 u3 h3 o3 s3 b3 => ⟨by simp (disch := first | omega | (simp only [zz]; try omega; done)) only [go_sem], ?_⟩
      have R8 := Q8.step s3 (fun hj => (nA2 _ hj).2.2.1 rfl)
      have R4 := Q4.step s3 (fun hj => (nA2 _ hj).1 rfl)
      have R6 := Q6.step s3 (fun hj => (nA2 _ hj).2.1 rfl)
      have M3 := M2.step s3 (fun j hj hA => (nA2 j hA).2.2.2 hj)
      have nA3 : ∀ j, OwnB (.slice a3 n3 c3) j → j ≠ p4 ∧ j ≠ p6 ∧ j ≠ p8 ∧ ¬ MkB bm vVi j := fun j hj => (b3 j hj).elim (nA2 j) (fun h => ⟨by have := Q4.1; omega, by have := Q6.1; omega, by omega, fun hm => by have := (M2.ge hm).2; omega⟩)
      have st3 : Step (fun j => false = true ∧ MkB bm vV j) u h u3 h3 := st2.trans s3 (fun j hj hB => by have := ho.ge hB; omega)
      have sw : Step (fun j => j = p8) u3 h3 u3 (hset h3 p8 1 (.slice a3 n3 c3)) := Step.set u3 h3 _ rfl (by rw [R8.2.2.2.1]; exact Nat.zero_le _)
      have hr8 := R8.1
      have hx8 := R8.2.1
      have hy8 := R8.2.2.1
      simp (disch := first | omega | (simp only [zz]; try omega; done)) only [↓reduceIte, go_sem, e8, e9, hx8, hy8]
      refine ⟨i + 1, ?_, by omega⟩
      rw [hI]
      refine ⟨by simp [upd, e0], by simp [upd, e2], by simp [upd, e4], by simp [upd, e6], by simp [upd, e7], by simp [upd, e8], by simp [upd], hlt, u3, vVi, mkW false li t, _, _, st3.trans sw (fun j hj e => by have e : j = p8 := e; omega), M3.step sw (fun j hj e => ?_), V2, hsame, o3.step sw (fun j hj e => (nA3 j hj).2.2.1 e), R4.step sw (fun e => hp.2.2.2.2.2.2.2.1 e), R6.step sw (fun e => hp.2.2.2.2.2.2.2.2 e), R8.set (i := 1) (v := .slice a3 n3 c3) (by simp), nA3, nV2, ?_, ?_, by simp [hal], hl2⟩
      · have e : j = p8 := e
        rcases hj with hj | hj
        · exact hp.2.2.2.2.2.1 (e.symm.trans hj)
        · exact (nV2 j hj).2.2 e
      · rw [hF]; simp
      · exact hV
  · obtain rfl : i = TS.length := by omega
    rw [List.drop_length, mkF_nil, List.append_nil] at hF
    rw [List.drop_length, mkV_nil] at hV
    obtain ⟨ra, rc, hvA, -, -⟩ := ho.sl
    subst hvA
    simp (disch := first | omega | (simp only [zz]; try omega; done)) only [↓reduceIte, go_sem, klAtom_L1, e6, e7, e8, e9, P8.at, P8.2.1, P6.2.1, P6.2.2.1]
    obtain ⟨z0, z1, z2, z3⟩ := set3 (v0 := str (predF a.1 TS.length)) (v1 := .slice ra acc.length rc) (v2 := .int .i64 a.2.2) P6.2.1
    have sw : Step (fun j => j = p6) u' h' u' (hsets h' p6 0 [str (predF a.1 TS.length), .slice ra acc.length rc, .int .i64 a.2.2]) := Step.sets u' h' _ rfl (by rw [P6.2.2.2.1]; exact Nat.le_refl _) (by rw [P6.2.1]; exact Nat.le_refl _)
    rw [z0, z1, z2, z3]
    refine ⟨Nat.le_refl _, ?_⟩
    refine hK u' _ vVi [str (predF a.1 TS.length), .slice ra acc.length rc, .int .i64 a.2.2] (st.trans sw (fun j hj e => by have e : j = p6 := e; omega)) (by rw [atomV_eq, ← hTS, hV]; exact M.step sw (fun j hj e => by
      have e : j = p6 := e
      rcases hj with hj | hj
      · exact hp.2.2.2.2.1 (e.symm.trans hj)
      · exact (nV j hj).2.1 e)) hVi (fun h => (hVs h).1) ?_
    rw [atomM_eq, ← hTS, rep_atom, hF]
    exact ⟨_, rfl, (ho.isSl).mono sw.ge⟩
end Go.Proofs.Ytkobamedfbgjbaa
