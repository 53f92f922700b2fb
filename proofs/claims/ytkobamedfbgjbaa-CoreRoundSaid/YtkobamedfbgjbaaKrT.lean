import Derived.Test.YtkobamedfbgjbaaKcM
import Derived.Test.YtkobamedfbgjbaaKrR
section Merged
namespace Edict
def endF (p : List Clause) (fs : List Atom) (ps : List Pred) (cs : List Const) : Core × Flt :=
  ((ps, cs, (rulesF ps cs ([], []) 0 p).1, fs.foldl (fun l a => factT l (rowF ps cs a)) (rulesF ps cs ([], []) 0 p).2), 0, 0, 0)
theorem takeA_cons (cs : List Const) (a : Atom) (l : List Atom) : takeA cs (a :: l) = match valF cs a.2.1 with
    | (cs, none) => takeA cs l
    | (cs, some t) => (cs, some t) := rfl
end Edict
namespace Go.Proofs.Ytkobamedfbgjbaa
open Go Go.Ev Edict
theorem nil_core {u : U} {h : H} : Rep.rep u h core0 [.slice none 0 0, .slice none 0 0, .slice none 0 0, .slice none 0 0] := rep_core (.nil _ _) (.nil _ _) (.nil _ _) (.nil _ _)
theorem err_ok {K : Value → H → Prop} {u0 : U} {h0 : H} {p : List Clause} {fs : List Atom} {la fa : Option Addr} {lc fc p2 p4 p5 b k : Nat} {σ : Env} {u : U} {h : H} {c x o : Int} (X : BCx u0 h0 p fs la fa lc fc p2 p4 p5 b k σ u h) (hb : buildF p fs = (core0, c, x, o)) (hK : Kb u0 h0 p fs K) :
    let h1 := hsets h p4 0 [.slice none 0 0, .slice none 0 0, .slice none 0 0, .slice none 0 0]
    let h2 := hsets h1 p5 0 [.int .i64 c, .int .i64 x, .int .i64 o]
    p5 < h1.size ∧ hsz h1 p5 = 3 ∧ hfr h1 p5 = (0, 0) ∧ hsz h2 p4 = 4 ∧ hsz h2 p5 = 3 ∧ (∀ i, i < 4 → Go.Ev.hv h2 p4 i = .slice none 0 0) ∧ Go.Ev.hv h2 p5 0 = .int .i64 c ∧ Go.Ev.hv h2 p5 1 = .int .i64 x ∧ Go.Ev.hv h2 p5 2 = .int .i64 o ∧
      h1.size = h.size ∧ h2.size = h.size ∧ ∀ u3 h3, Step S0 u h2 u3 h3 → K (.tuple #[.agg #[.slice none 0 0, .slice none 0 0, .slice none 0 0, .slice none 0 0], .agg #[.int .i64 c, .int .i64 x, .int .i64 o]]) h3 := by
  intro h1 h2
  have F := X.F
  have C := X.C
  have lt := X.lt
  have sw1 : Step (fun j => j = p4) u h u h1 := Step.sets u h _ rfl (by rw [C.2.2.2.1]; exact Nat.le_refl _) (by rw [C.2.1]; exact Nat.le_refl _)
  have F1 := F.step sw1 (fun e => lt.2.2.2.2.2.2.2.2.1 (by have e : p5 = p4 := e; exact e.symm))
  have C1 := C.sets (l := [.slice none 0 0, .slice none 0 0, .slice none 0 0, .slice none 0 0]) rfl
  have sw2 : Step (fun j => j = p5) u h1 u h2 := Step.sets u _ _ rfl (by rw [F1.2.2.2.1]; exact Nat.le_refl _) (by rw [F1.2.1]; exact Nat.le_refl _)
  have C2 := C1.step sw2 (fun e => lt.2.2.2.2.2.2.2.2.1 (by have e : p4 = p5 := e; exact e))
  have F2 := F1.sets (l := [.int .i64 c, .int .i64 x, .int .i64 o]) rfl
  have this : ∀ u3 h3, Step S0 u h2 u3 h3 → K (.tuple #[.agg #[.slice none 0 0, .slice none 0 0, .slice none 0 0, .slice none 0 0], .agg #[.int .i64 c, .int .i64 x, .int .i64 o]]) h3 := fun u3 h3 s3 => by
    have := hK u3 h3 [.slice none 0 0, .slice none 0 0, .slice none 0 0, .slice none 0 0] (((X.st.trans sw1 (fun j hj e => by have e : j = p4 := e; omega)).trans sw2 (fun j hj e => by have e : j = p5 := e; omega)).trans0 s3) (by rw [hb]; exact nil_core)
    rw [hb] at this
    exact this
  refine ⟨F1.1, F1.2.1, F1.2.2.1, C2.2.1, F2.2.1, fun i hi => ?_, F2.at 0 (by simp), F2.at 1 (by simp), F2.at 2 (by simp), hsets_size _ _ _ _, (hsets_size _ _ _ _).trans (hsets_size _ _ _ _), this⟩
  have hc := C2.at i hi
  rw [hc]
  rcases i with _ | _ | _ | _ | i
  · rfl
  · rfl
  · rfl
  · rfl
  · omega
theorem bT8_ok {K : Value → H → Prop} {KP : List PanicEntry → H → Prop} {u0 : U} {h0 : H} {p : List Clause} {fs : List Atom} {la fa : Option Addr} {lc fc p2 p4 p5 b k : Nat} {σ : Env} {u : U} {h : H} {mp mc : Nat} {vP vC vR vF : Value} {ps : List Pred} {cs : List Const}
    (X : BCx u0 h0 p fs la fa lc fc p2 p4 p5 b k σ u h) (hl : IsSl u0 h0 (.slice la p.length lc) p) (hlf : IsSl u0 h0 (.slice fa fs.length fc) fs) (B : BSt k u h b mp mc vP vC vR vF ps cs [] [])
    (hps : ps.length ≤ 131072) (hcs : cs.length ≤ 65536) (hpl : p.length ≤ 512) (hpc : ∀ c ∈ p, clauseW c = 0) (hpw : ∀ c ∈ p, ∀ t ∈ termsC c, Rep.wf (cnst t)) (h8 : ∀ a ∈ fs, a.2.1.length ≤ 8 ∧ ∀ t ∈ a.2.1, Rep.wf (cnst t)) (hfl : fs.length ≤ 4096)
    (hb : buildF p fs = endF p fs ps cs) (hK : Kb u0 h0 p fs K) : wpS G_crBuild bT8 (retQ crBuild_E (callK K KP)) σ h := by
  rw [bT8_cut]
  simp (disch := first | omega | (simp only [zz]; try omega; done)) only [go_sem, bT8, bT7, bT6, bT5, bT4, bT3, bT2, sS, sF, crBuild_S]
  refine effS_mkmg ksK encK u fun u1 h1 s1 m1 => ⟨by simp (disch := first | omega | (simp only [zz]; try omega; done)) only [go_sem], ?_⟩
  rw [show (fun _ => none : List Int → Option Int) = posL (([] : List Row).map key9) from by funext s; simp [posL]] at m1
  simp (disch := first | omega | (simp only [zz]; try omega; done)) only [↓reduceIte, go_sem]
  have hk := X.lt.2.2.2.2.2.2.2.2.2.2
  exact bT9_ok (X.step s1 (fun _ h => h.elim) _ (by simp [upd]) (by simp [upd]) (by simp [upd]) (by simp [upd]) (by simp [upd])) (by simp [upd]) hl hlf (B.step s1 (fun _ _ h => h)) m1 (fun hj => by have := B.lt hj; omega) hk hps hcs hpl hpc hpw h8 hfl hb hK
theorem bT7_ok {K : Value → H → Prop} {KP : List PanicEntry → H → Prop} {u0 : U} {h0 : H} {p : List Clause} {fs : List Atom} {la fa : Option Addr} {lc fc p2 p4 p5 b k : Nat} {σ : Env} {u : U} {h : H} {mp mc : Nat} {vP vC vR vF : Value} {ps : List Pred} {cs : List Const}
    (X : BCx u0 h0 p fs la fa lc fc p2 p4 p5 b k σ u h) (hl : IsSl u0 h0 (.slice la p.length lc) p) (hlf : IsSl u0 h0 (.slice fa fs.length fc) fs) (B : BSt k u h b mp mc vP vC vR vF ps cs [] [])
    (hps : ps.length ≤ 131072) (hcs : cs.length ≤ 65536) (hpl : p.length ≤ 512) (hpc : ∀ c ∈ p, clauseW c = 0) (hpw : ∀ c ∈ p, ∀ t ∈ termsC c, Rep.wf (cnst t)) (h8 : ∀ a ∈ fs, a.2.1.length ≤ 8 ∧ ∀ t ∈ a.2.1, Rep.wf (cnst t)) (hfl : fs.length ≤ 4096)
    (hb : buildF p fs = match takeA cs fs with
      | (_, some t) => (core0, 6, 1, t.2.2.2)
      | (cs', none) => endF p fs ps cs') (hK : Kb u0 h0 p fs K) : wpS G_crBuild bT7 (retQ crBuild_E (callK K KP)) σ h := by
  rw [bT7_cut]
  simp (disch := first | omega | (simp only [zz]; try omega; done)) only [↓reduceIte, go_sem, bT7, bT6, bT5, bT4, bT3, bT2, sS, sF, crBuild_S, X.e1]
  obtain ⟨I, hI⟩ : ∃ I : Nat → Env → H → Prop, I = fun i σ' h' => σ' 73 = .slice fa fs.length fc ∧ σ' 74 = .int .i64 fs.length ∧ σ' 75 = .int .i64 i ∧ i ≤ fs.length ∧
    ∃ (u' : U) (vi : Value) (ci : List Const), BCx u0 h0 p fs la fa lc fc p2 p4 p5 b k σ' u' h' ∧ BSt k u' h' b mp mc vP vi vR vF ps ci [] [] ∧ ci.length ≤ 65536 ∧ takeA cs fs = takeA ci (fs.drop i) := ⟨_, rfl⟩
  refine wpS_loop I (fun i => fs.length - i) 0 (by
    rw [hI]
    exact ⟨by simp [upd], by simp [upd], by simp [upd], Nat.zero_le _, u, vC, cs, X.step (S := S0) (.refl _ _ _) (fun _ h => h.elim) _ (by simp [upd]) (by simp [upd]) (by simp [upd]) (by simp [upd]) (by simp [upd]), B, hcs, rfl⟩) ?_
  clear B X hcs
  intro i σ h' hy
  rw [hI] at hy
  obtain ⟨e73, e74, e75, hi, u', vi, ci, X, B, hcs, heq⟩ := hy
  by_cases hlt : i < fs.length
  · obtain ⟨x, hs⟩ : ∃ x, fs[i]? = some x := ⟨fs[i], by simp [hlt]⟩
    have hdr : fs.drop i = x :: fs.drop (i + 1) := by
      obtain ⟨hi', rfl⟩ := List.getElem?_eq_some_iff.1 hs
      exact List.drop_eq_getElem_cons hi'
    rw [hdr, takeA_cons] at heq
    have hx := h8 x (List.mem_of_getElem? hs)
    obtain ⟨pb, po, rfl, hpb, hpu, hpz, hpr⟩ := (hlf.mono X.st.ge).row i x hs
    rw [rep_atom] at hpr
    obtain ⟨pv, hpr, hpv⟩ := hpr
    obtain ⟨pva, pvc, rfl, r1, r2⟩ := hpv.sl
    simp only [sz_atom, hvs_3, List.cons.injEq, and_true] at hpr hpu hpz
    obtain ⟨q0, q1, q2⟩ := hpr
    have sp := Step.push0 S0 u' h' #[str x.1, .slice pva x.2.1.length pvc, .int .i64 x.2.2] 45
    have X1 := X.step sp (fun _ h => h.elim) σ rfl rfl rfl rfl rfl
    simp (disch := first | omega | (simp only [zz]; try omega; done)) only [↓reduceIte, go_sem, crBuild_L2, X.e8, e73, e74, e75, hlt, q0, q1, q2]
    refine effS_call (gb_values ⟨k, ub u' h'.size 0, b, mp, mc, _, vP, vi, vR, vF, x.2.1, ps, ci, [], [], rfl, hpv.mono sp.ge, B.step sp (fun _ _ h => h), hcs, X1.lt.2.2.2.2.2.2.2.2.2.2, hx.2, fun u3 h3 vj s3 B3 b3 l3 => ⟨by simp (disch := first | omega | (simp only [zz]; try omega; done)) only [go_sem], ?_⟩⟩)
    have X3 := X1.step s3 (fun j hj => B.ge hj) σ rfl rfl rfl rfl rfl
    have sq := Step.push0 S0 u3 h3 (Term.enc ((valF ci x.2.1).2.getD term0)).toArray 94
    have B4 := B3.step sq (fun _ _ h => h)
    have X4 := X3.step sq (fun _ h => h.elim) σ rfl rfl rfl rfl rfl
    generalize hvr : valF ci x.2.1 = r at heq B3 B4 l3 sq X4 ⊢
    obtain ⟨cj, ot⟩ := r
    cases ot with
    | none =>
      simp only [Option.getD_none, Option.isSome_none, Term.enc, term0] at heq sq X4 B4 l3 ⊢
      simp (disch := first | omega | (simp only [zz]; try omega; done)) only [↓reduceIte, go_sem, e75]
      refine ⟨i + 1, ?_, by omega⟩
      rw [hI]
      exact ⟨by simp [upd, e73], by simp [upd, e74], by simp [upd], hlt, _, vj, cj, X4.step (S := S0) (.refl _ _ _) (fun _ h => h.elim) _ (by simp [upd]) (by simp [upd]) (by simp [upd]) (by simp [upd]) (by simp [upd]), B4, l3, heq⟩
    | some t =>
      simp only [Option.getD_some, Option.isSome_some, Term.enc] at heq sq X4 B4 l3 ⊢
      rw [heq] at hb
      simp only at hb
      have E := err_ok X3 hb hK
      have C3 := X3.C
      have F3 := X3.F
      have hc3 := C3.1
      have hf3 := F3.1
      simp (disch := first | omega | (simp only [zz]; try omega; done)) only [↓reduceIte, go_sem, X.e4, X.e5, C3.2.1, C3.2.2.1]
      generalize hXe : hsets h3 p4 0 [.slice none 0 0, .slice none 0 0, .slice none 0 0, .slice none 0 0] = hX at E ⊢
      obtain ⟨y1, y2, y3, y4, y5, y6, y7, y8, y9, y10, y11, y12⟩ := E
      have y60 := y6 0 (by omega)
      have y61 := y6 1 (by omega)
      have y62 := y6 2 (by omega)
      have y63 := y6 3 (by omega)
      simp (disch := first | omega | (simp only [zz]; try omega; done)) only [↓reduceIte, go_sem, X.e4, X.e5, crBuild_E, y3, y4, y5, y60, y61, y62, y63, y7, y8, y9]
      exact y12 _ _ (Step.push0 S0 _ _ _ _)
  · obtain rfl : i = fs.length := by omega
    rw [List.drop_length] at heq
    have heq : takeA cs fs = (ci, none) := heq
    rw [heq] at hb
    simp only at hb
    simp (disch := first | omega | (simp only [zz]; try omega; done)) only [↓reduceIte, go_sem, crBuild_L2, e74, e75]
    exact bT8_ok (X.step (S := S0) (.refl _ _ _) (fun _ h => h.elim) _ (by simp [upd]) (by simp [upd]) (by simp [upd]) (by simp [upd]) (by simp [upd])) hl hlf B hps hcs hpl hpc hpw h8 hfl hb hK
end Go.Proofs.Ytkobamedfbgjbaa
end Merged
section Merged
namespace Edict
def factOf (a : Atom) : Fact := (a.1, a.2.1.map cnst)
def addF (l : List Fact) (f : Fact) : List Fact := if f ∈ l then l else l ++ [f]
def headsF (q : List Clause) : List Atom := (q.filter fun c => decide (c.2 = [])).map (·.1)
def initF (q : List Clause) (g : List Atom) : List Fact := (headsF q ++ g).foldl (fun l a => addF l (factOf a)) []
def bodN (p : List Clause) : Nat := (p.filter fun c => !c.2.isEmpty).length
theorem rules_get {ps : List Pred} {cs : List Const} : ∀ (l : List Clause) (st : List Rule × List Row) (n : Nat), (rulesF ps cs st n l).1.length = st.1.length + bodN l ∧ (∀ j, j < st.1.length → (rulesF ps cs st n l).1[j]? = st.1[j]?) ∧ ∀ i c, l[i]? = some c → c.2 ≠ [] → (rulesF ps cs st n l).1[st.1.length + bodN (l.take i)]? = some (ruleC ps cs ((n + i : Nat) : Int) c)
  | [], st, n => ⟨rfl, fun _ _ => rfl, fun i c h => by simp at h⟩
  | d :: l, st, n => by
    obtain ⟨i1, i2, i3⟩ := rules_get (ps := ps) (cs := cs) l (stepR ps cs st n d) (n + 1)
    have e : rulesF ps cs st n (d :: l) = rulesF ps cs (stepR ps cs st n d) (n + 1) l := rfl
    rw [e]
    by_cases hd : d.2 = []
    · have hs : (stepR ps cs st n d).1 = st.1 := by unfold stepR; rw [if_pos hd]
      have hb : ∀ m : List Clause, bodN (d :: m) = bodN m := fun m => by unfold bodN; rw [List.filter_cons_of_neg (by simp [hd])]
      rw [hs] at i1 i2 i3
      refine ⟨by rw [i1, hb], i2, fun i c hc hne => ?_⟩
      match i, hc with
      | 0, hc => cases hc; exact absurd hd hne
      | i + 1, hc =>
        rw [List.take_succ_cons, hb]
        have := i3 i c hc hne
        rwa [show n + (i + 1) = n + 1 + i by omega]
    · have hs : (stepR ps cs st n d).1 = st.1 ++ [ruleC ps cs n d] := by unfold stepR; rw [if_neg hd]
      have hb : ∀ m : List Clause, bodN (d :: m) = bodN m + 1 := fun m => by unfold bodN; rw [List.filter_cons_of_pos (by simp [hd])]; rfl
      rw [hs] at i1 i2 i3
      simp only [List.length_append, List.length_cons, List.length_nil] at i1 i2 i3
      refine ⟨by rw [i1, hb]; omega, fun j hj => ?_, fun i c hc hne => ?_⟩
      · rw [i2 j (by omega), List.getElem?_append_left hj]
      · match i, hc with
        | 0, hc =>
          cases hc
          have : bodN ((d :: l).take 0) = 0 := rfl
          rw [this, i2 _ (by omega), Nat.add_zero, List.getElem?_append_right (Nat.le_refl _), Nat.sub_self]; rfl
        | i + 1, hc =>
          rw [List.take_succ_cons, hb]
          have := i3 i c hc hne
          rwa [show n + (i + 1) = n + 1 + i by omega, show st.1.length + (bodN (l.take i) + 1) = st.1.length + (0 + 1) + bodN (l.take i) by omega]
theorem rows_get {ps : List Pred} {cs : List Const} : ∀ (l : List Clause) (st : List Rule × List Row) (n : Nat), (rulesF ps cs st n l).2 = (headsF l).foldl (fun r a => factT r (rowF ps cs a)) st.2
  | [], _, _ => rfl
  | d :: l, st, n => by
    have e : rulesF ps cs st n (d :: l) = rulesF ps cs (stepR ps cs st n d) (n + 1) l := rfl
    rw [e, rows_get l]
    by_cases hd : d.2 = []
    · have hs : (stepR ps cs st n d).2 = factT st.2 (rowF ps cs d.1) := by unfold stepR; rw [if_pos hd]
      have hh : headsF (d :: l) = d.1 :: headsF l := by unfold headsF; rw [List.filter_cons_of_pos (by simp [hd])]; rfl
      rw [hs, hh, List.foldl_cons]
    · have hs : (stepR ps cs st n d).2 = st.2 := by unfold stepR; rw [if_neg hd]
      have hh : headsF (d :: l) = headsF l := by unfold headsF; rw [List.filter_cons_of_neg (by simp [hd])]
      rw [hs, hh]
structure AtomI (P : List Pred) (C : List Const) (a : Atom) : Prop where
  n : AtomN a
  c : ∀ t ∈ a.2.1, cnst t ∈ C
  p : a.1 ∈ P.map (·.1)
theorem ids_back {C : List Const} : ∀ {l : List Term}, (∀ t ∈ l, cnst t ∈ C) → mapS (at? C) (l.map fun t => idL C (cnst t)) = some (l.map cnst)
  | [], _ => rfl
  | t :: l, h => by
    rw [List.map_cons, mapS, at_idL (h t (List.mem_cons_self ..)), ids_back (l := l) fun y hy => h y (List.mem_cons_of_mem _ hy)]; rfl
theorem fact_back {P : List Pred} {C : List Const} {a : Atom} (hP : ∀ x ∈ P, PredN x) (h : AtomI P C a) : factB P C (rowF P C a) = (factOf a, 0) := by
  obtain ⟨n, h1, h2⟩ := at_ids h.p
  have hn : n = a.2.1.length := predN_ar (hP _ h2) h.n rfl
  unfold factB rowF
  simp only
  rw [h1]
  simp only
  rw [if_pos (by rw [List.length_map, hn]), ids_back h.c]; rfl
theorem ids_inj {C : List Const} {l m : List Term} (hl : ∀ t ∈ l, cnst t ∈ C) (hm : ∀ t ∈ m, cnst t ∈ C) (h : (l.map fun t => idL C (cnst t)) = m.map fun t => idL C (cnst t)) : l.map cnst = m.map cnst := by
  have e1 := ids_back hl
  rw [h, ids_back hm] at e1
  exact (Option.some.inj e1).symm
theorem key_fact {P : List Pred} {C : List Const} {a b : Atom} (ha : AtomI P C a) (hb : AtomI P C b) : key9 (rowF P C a) = key9 (rowF P C b) ↔ factOf a = factOf b := by
  constructor
  · intro h
    unfold key9 rowF at h
    simp only [List.cons_append, List.cons.injEq] at h
    obtain ⟨h1, h2⟩ := h
    have hn : a.1 = b.1 := by
      obtain ⟨n, p1, -⟩ := at_ids ha.p
      obtain ⟨m, p2, -⟩ := at_ids hb.p
      rw [h1, p2] at p1
      exact (congrArg Prod.fst (Option.some.inj p1)).symm
    obtain ⟨c, hc, hl, ea⟩ := ha.n
    obtain ⟨d, hd, hk, eb⟩ := hb.n
    have hlen : a.2.1.length = b.2.1.length := by
      rw [ea, eb] at hn
      simp only [List.cons.injEq, and_true] at hn
      have := congrArg UInt8.toNat hn.2
      rw [ofNat_small (by omega), ofNat_small (by omega)] at this
      omega
    have := List.append_inj_left h2 (by rw [List.length_map, List.length_map, hlen])
    unfold factOf
    rw [hn, ids_inj ha.c hb.c this]
  · intro h
    unfold factOf at h
    have h1 := congrArg Prod.fst h
    have h2 := congrArg Prod.snd h
    simp only at h1 h2
    have : (a.2.1.map fun t => idL C (cnst t)) = b.2.1.map fun t => idL C (cnst t) := by
      have e : ∀ l : List Term, (l.map fun t => idL C (cnst t)) = (l.map cnst).map (idL C) := fun l => by rw [List.map_map]; rfl
      rw [e, e, h2]
    unfold rowF
    rw [h1, this]
theorem side_by {P : List Pred} {C : List Const} : ∀ (l : List Atom) (rows : List Row) (fs : List Fact) (az : List Atom), rows = az.map (rowF P C) → fs = az.map factOf → (∀ a ∈ az, AtomI P C a) → (∀ a ∈ l, AtomI P C a) →
    ∃ bs : List Atom, l.foldl (fun r a => factT r (rowF P C a)) rows = bs.map (rowF P C) ∧ l.foldl (fun r a => addF r (factOf a)) fs = bs.map factOf ∧ ∀ b ∈ bs, AtomI P C b
  | [], _, _, az, h1, h2, h3, _ => ⟨az, h1, h2, h3⟩
  | a :: l, rows, fs, az, h1, h2, h3, h4 => by
    have ha := h4 a (List.mem_cons_self ..)
    rw [List.foldl_cons, List.foldl_cons]
    have hiff : key9 (rowF P C a) ∈ rows.map key9 ↔ factOf a ∈ fs := by
      rw [h1, h2, List.map_map]
      constructor
      · intro h
        obtain ⟨b, hb, e⟩ := List.mem_map.1 h
        exact List.mem_map.2 ⟨b, hb, ((key_fact (h3 b hb) ha).1 e)⟩
      · intro h
        obtain ⟨b, hb, e⟩ := List.mem_map.1 h
        exact List.mem_map.2 ⟨b, hb, ((key_fact (h3 b hb) ha).2 e)⟩
    by_cases hk : factOf a ∈ fs
    · rw [show factT rows (rowF P C a) = rows by unfold factT; rw [if_pos (hiff.2 hk)], show addF fs (factOf a) = fs by unfold addF; rw [if_pos hk]]
      exact side_by l rows fs az h1 h2 h3 fun b hb => h4 b (List.mem_cons_of_mem _ hb)
    · rw [show factT rows (rowF P C a) = rows ++ [rowF P C a] by unfold factT; rw [if_neg (fun h => hk (hiff.1 h))], show addF fs (factOf a) = fs ++ [factOf a] by unfold addF; rw [if_neg hk]]
      exact side_by l _ _ (az ++ [a]) (by rw [h1]; simp) (by rw [h2]; simp) (fun b hb => by
        rcases List.mem_append.1 hb with hb | hb
        · exact h3 b hb
        · rw [List.mem_singleton.1 hb]; exact ha) fun b hb => h4 b (List.mem_cons_of_mem _ hb)
/-! ### Of the right program -/
theorem valT_keep {cs : List Const} {k : Const} (h : k ∈ cs) (t : Term) : k ∈ valT cs t := by
  unfold valT; split
  · exact h
  · exact List.mem_append.2 (.inl h)
theorem vals_keep : ∀ (l : List Term) {cs : List Const} {k : Const}, k ∈ cs → k ∈ l.foldl valT cs
  | [], _, _, h => h
  | t :: l, _, _, h => vals_keep l (valT_keep h t)
theorem vals_self : ∀ {l : List Term} {cs : List Const} {t : Term}, t ∈ l → t.1 ≠ 4 → cnst t ∈ l.foldl valT cs
  | x :: l, cs, t, h, h4 => by
    rw [List.foldl_cons]
    rcases List.mem_cons.1 h with rfl | h
    · refine vals_keep l ?_
      unfold valT
      split
      · rename_i hh; exact hh.elim (fun h => absurd h h4) id
      · simp
    · exact vals_self h h4
theorem nam_keep {ps : List Pred} {s : Byts} (h : s ∈ ps.map (·.1)) (a : Atom) : s ∈ (namT ps a).map (·.1) := by
  unfold namT; split
  · exact h
  · rw [List.map_append]; exact List.mem_append.2 (.inl h)
theorem nams_keep : ∀ (l : List Atom) {ps : List Pred} {s : Byts}, s ∈ ps.map (·.1) → s ∈ (l.foldl namT ps).map (·.1)
  | [], _, _, h => h
  | a :: l, _, _, h => nams_keep l (nam_keep h a)
theorem nams_self : ∀ {l : List Atom} {ps : List Pred} {a : Atom}, a ∈ l → a.1 ∈ (l.foldl namT ps).map (·.1)
  | b :: l, ps, a, h => by
    rw [List.foldl_cons]
    rcases List.mem_cons.1 h with rfl | h
    · refine nams_keep l ?_
      unfold namT; split
      · assumption
      · simp
    · exact nams_self h
theorem inC {q : List Clause} {g : List Atom} {c : Clause} (hc : c ∈ q) : ∀ t ∈ termsC c, t.1 ≠ 4 → cnst t ∈ csF q g := fun t ht h4 => by
  unfold csF
  exact vals_keep _ (vals_self (List.mem_flatMap.2 ⟨c, hc, ht⟩) h4)
theorem inP {q : List Clause} {g : List Atom} {c : Clause} (hc : c ∈ q) : ∀ a ∈ atomsC c, a.1 ∈ (psF q g).map (·.1) := fun a ha => by
  unfold psF
  exact nams_keep _ (nams_self (List.mem_flatMap.2 ⟨c, hc, ha⟩))
theorem psF_n {q : List Clause} {g : List Atom} (hq : ∀ c ∈ q, ClauseN c) (hg : ∀ a ∈ g, FactN a) : ∀ x ∈ psF q g, PredN x := by
  obtain ⟨n1, n2⟩ := names_n (l := q.flatMap atomsC) (ps := []) (by simp) (by simp) (flatN hq)
  exact (names_n (l := g) n1 n2 fun a ha => (hg a ha).n).1
theorem round_rule {q : List Clause} {g : List Atom} (hq : ∀ c ∈ q, ClauseN c) {i : Nat} {c : Clause} (hi : q[i]? = some c) (hb : c.2 ≠ []) : (coreF q g).2.2.1[bodN (q.take i)]? = some (ruleC (psF q g) (csF q g) (i : Int) c) ∧ ruleB (psF q g) (csF q g) (ruleC (psF q g) (csF q g) (i : Int) c) = (chainF c, 0) := by
  have hc := List.mem_of_getElem? hi
  have h1 := (rules_get (ps := psF q g) (cs := csF q g) q ([], []) 0).2.2 i c hi hb
  simp only [List.length_nil, Nat.zero_add] at h1
  exact ⟨h1, rule_back (hq c hc) (inC hc) (inP hc)⟩
theorem round_count {q : List Clause} {g : List Atom} : (coreF q g).2.2.1.length = bodN q := by
  have := (rules_get (ps := psF q g) (cs := csF q g) q ([], []) 0).1
  simp only [List.length_nil, Nat.zero_add] at this
  exact this
theorem round_facts {q : List Clause} {g : List Atom} (hq : ∀ c ∈ q, ClauseN c) (hg : ∀ a ∈ g, FactN a) : ∃ bs : List Atom, (coreF q g).2.2.2 = bs.map (rowF (psF q g) (csF q g)) ∧ initF q g = bs.map factOf ∧ ∀ b ∈ bs, AtomI (psF q g) (csF q g) b := by
  have hhd : ∀ a ∈ headsF q, AtomI (psF q g) (csF q g) a := fun a ha => by
    unfold headsF at ha
    obtain ⟨c, hc, rfl⟩ := List.mem_map.1 ha
    obtain ⟨hc, he⟩ := List.mem_filter.1 hc
    have he : c.2 = [] := of_decide_eq_true he
    refine ⟨(hq c hc).names c.1 (List.mem_cons_self ..), fun t ht => inC hc t (by unfold termsC; exact List.mem_append.2 (.inl ht)) fun h4 => ?_, inP hc c.1 (List.mem_cons_self ..)⟩
    have hlo := looseC_none (hq c hc).bound t (by unfold allTerms; exact List.mem_append.2 (.inl ht))
    unfold looseB at hlo
    rw [he, decide_eq_true h4] at hlo
    simp [varsF] at hlo
  have hgd : ∀ a ∈ g, AtomI (psF q g) (csF q g) a := fun a ha => by
    refine ⟨(hg a ha).n, fun t ht => ?_, ?_⟩
    · unfold csF
      refine vals_self (List.mem_flatMap.2 ⟨a, ha, ht⟩) ?_
      have := (hg a ha).g
      unfold grB at this
      rw [Bool.and_eq_true, List.all_eq_true] at this
      have := this.2 t ht
      simpa using this
    · unfold psF; exact nams_self ha
  obtain ⟨bs, h1, h2, h3⟩ := side_by (P := psF q g) (C := csF q g) (headsF q ++ g) [] [] [] rfl rfl (fun _ h => nomatch h) (fun a ha => (List.mem_append.1 ha).elim (hhd a) (hgd a))
  refine ⟨bs, ?_, h2, h3⟩
  rw [← h1, List.foldl_append]
  show g.foldl _ (rulesF (psF q g) (csF q g) ([], []) 0 q).2 = _
  rw [rows_get]
end Edict
end Merged
