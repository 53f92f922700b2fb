/- core: Build, its last parts: the facts, the answer. -/
import Derived.Test.YtkobamedfbgjbaaKcK
namespace Go.Ev
def sF : S → S | .seq a _ => a | s => s
def sS : S → S | .seq _ b => b | s => s
end Go.Ev
namespace Edict
theorem factT_len (l : List Row) (r : Row) : (factT l r).length ≤ l.length + 1 := by unfold factT; split <;> simp
end Edict
namespace Go.Proofs.Ytkobamedfbgjbaa
open Go Go.Ev Edict
theorem BSt.ge {k : Nat} {u : U} {h : H} {b mp mc : Nat} {vP vC vR vF : Value} {ps : List Pred} {cs : List Const} {rs : List Rule} {fs : List Row} (B : BSt k u h b mp mc vP vC vR vF ps cs rs fs) {i : Nat} (hi : BStB b mp mc vP vC vR vF i) : k ≤ i := by
  rcases hi with rfl | rfl | rfl | hi | hi | hi | hi
  · exact B.kb
  · exact B.kp
  · exact B.kc
  · exact B.oP.ge hi
  · exact B.oC.ge hi
  · exact B.oR.ge hi
  · exact B.oF.ge hi
def G_crBuild : Ctr := fun f vs h K _ => (f = 25 ∧ C_form vs h K) ∨ (f = 26 ∧ C_bound vs h K) ∨ (f = 27 ∧ C_begin vs h K) ∨ (f = 28 ∧ C_bnames vs h K) ∨ (f = 29 ∧ C_lits atomsL vs h K) ∨
  (f = 30 ∧ C_values vs h K) ∨ (f = 31 ∧ C_ofC termsC vs h K) ∨ (f = 32 ∧ C_factB vs h K) ∨ (f = 33 ∧ C_rule vs h K) ∨ (f = 34 ∧ C_slots vs h K)
theorem G_crBuild_ok : GOk Try.prog G_crBuild := by
  rintro f vs h K KP (⟨rfl, hC⟩ | ⟨rfl, hC⟩ | ⟨rfl, hC⟩ | ⟨rfl, hC⟩ | ⟨rfl, hC⟩ | ⟨rfl, hC⟩ | ⟨rfl, hC⟩ | ⟨rfl, hC⟩ | ⟨rfl, hC⟩ | ⟨rfl, hC⟩)
  · exact crForm_ok hC
  · exact crBound_ok hC
  · exact crBegin_ok hC
  · exact crNames_ok hC
  · exact crAtoms_ok hC
  · exact crValues_ok hC
  · exact crAll_ok hC
  · exact crFactB_ok hC
  · exact crRule_ok hC
  · exact crSlots_ok hC
section
variable {vs : List Value} {h : H} {K : Value → H → Prop} {KP : List PanicEntry → H → Prop}
theorem gb_form (hC : C_form vs h K) : G_crBuild 25 vs h K KP := .inl ⟨rfl, hC⟩
theorem gb_bound (hC : C_bound vs h K) : G_crBuild 26 vs h K KP := .inr (.inl ⟨rfl, hC⟩)
theorem gb_begin (hC : C_begin vs h K) : G_crBuild 27 vs h K KP := .inr (.inr (.inl ⟨rfl, hC⟩))
theorem gb_names (hC : C_bnames vs h K) : G_crBuild 28 vs h K KP := .inr (.inr (.inr (.inl ⟨rfl, hC⟩)))
theorem gb_atoms (hC : C_lits atomsL vs h K) : G_crBuild 29 vs h K KP := .inr (.inr (.inr (.inr (.inl ⟨rfl, hC⟩))))
theorem gb_values (hC : C_values vs h K) : G_crBuild 30 vs h K KP := .inr (.inr (.inr (.inr (.inr (.inl ⟨rfl, hC⟩)))))
theorem gb_all (hC : C_ofC termsC vs h K) : G_crBuild 31 vs h K KP := .inr (.inr (.inr (.inr (.inr (.inr (.inl ⟨rfl, hC⟩))))))
theorem gb_fact (hC : C_factB vs h K) : G_crBuild 32 vs h K KP := .inr (.inr (.inr (.inr (.inr (.inr (.inr (.inl ⟨rfl, hC⟩)))))))
theorem gb_rule (hC : C_rule vs h K) : G_crBuild 33 vs h K KP := .inr (.inr (.inr (.inr (.inr (.inr (.inr (.inr (.inl ⟨rfl, hC⟩))))))))
theorem gb_slots (hC : C_slots vs h K) : G_crBuild 34 vs h K KP := .inr (.inr (.inr (.inr (.inr (.inr (.inr (.inr (.inr ⟨rfl, hC⟩))))))))
end
/-! ### Build's parts -/
def bT2 : S := sS crBuild_S
def bT3 : S := sS bT2
def bT4 : S := sS bT3
def bT5 : S := sS bT4
def bT6 : S := sS bT5
def bT7 : S := sS bT6
def bT8 : S := sS bT7
def bT9 : S := sS bT8
def bT10 : S := sS bT9
def bT11 : S := sS bT10
theorem bS_cut : crBuild_S = .seq (sF crBuild_S) bT2 := rfl
theorem bT2_cut : bT2 = .seq (sF bT2) bT3 := rfl
theorem bT3_cut : bT3 = .seq (sF bT3) bT4 := rfl
theorem bT4_cut : bT4 = .seq (sF bT4) bT5 := rfl
theorem bT5_cut : bT5 = .seq (sF bT5) bT6 := rfl
theorem bT6_cut : bT6 = .seq (sF bT6) bT7 := rfl
theorem bT7_cut : bT7 = .seq (sF bT7) bT8 := rfl
theorem bT8_cut : bT8 = .seq (sF bT8) bT9 := rfl
theorem bT9_cut : bT9 = .seq (sF bT9) bT10 := rfl
theorem bT10_cut : bT10 = .seq (sF bT10) bT11 := rfl
structure BCx (u0 : U) (h0 : H) (p : List Clause) (fs : List Atom) (la fa : Option Addr) (lc fc p2 p4 p5 b k : Nat) (σ : Env) (u : U) (h : H) : Prop where
  e1 : σ 1 = .slice fa fs.length fc
  e2 : σ 2 = .pointer (some ⟨p2, 0, none⟩)
  e4 : σ 4 = .pointer (some ⟨p4, 0, none⟩)
  e5 : σ 5 = .pointer (some ⟨p5, 0, none⟩)
  e8 : σ 8 = .pointer (some ⟨b, 0, none⟩)
  st : Step S0 u0 h0 u h
  A : Blk u h p2 [.slice la p.length lc]
  C : Blk u h p4 [.slice none 0 0, .slice none 0 0, .slice none 0 0, .slice none 0 0]
  F : Blk u h p5 [.int .i64 0, .int .i64 0, .int .i64 0]
  lt : h0.size ≤ p2 ∧ h0.size ≤ p4 ∧ h0.size ≤ p5 ∧ p2 < k ∧ p4 < k ∧ p5 < k ∧ p2 ≠ p4 ∧ p2 ≠ p5 ∧ p4 ≠ p5 ∧ h0.size ≤ k ∧ k ≤ h.size
theorem BCx.step {u0 : U} {h0 : H} {p : List Clause} {fs : List Atom} {la fa : Option Addr} {lc fc p2 p4 p5 b k : Nat} {σ : Env} {u : U} {h : H} (X : BCx u0 h0 p fs la fa lc fc p2 p4 p5 b k σ u h) {S : Nat → Prop} {u' : U} {h' : H} (s : Step S u h u' h') (hS : ∀ i, S i → k ≤ i) (σ' : Env)
    (g1 : σ' 1 = σ 1) (g2 : σ' 2 = σ 2) (g4 : σ' 4 = σ 4) (g5 : σ' 5 = σ 5) (g8 : σ' 8 = σ 8) : BCx u0 h0 p fs la fa lc fc p2 p4 p5 b k σ' u' h' where
  e1 := g1.trans X.e1
  e2 := g2.trans X.e2
  e4 := g4.trans X.e4
  e5 := g5.trans X.e5
  e8 := g8.trans X.e8
  st := X.st.trans s fun i hi hs => by have := hS i hs; have := X.lt; omega
  A := X.A.step s fun hs => by have := hS _ hs; have := X.lt; omega
  C := X.C.step s fun hs => by have := hS _ hs; have := X.lt; omega
  F := X.F.step s fun hs => by have := hS _ hs; have := X.lt; omega
  lt := by have := X.lt; have := s.ge.sz; omega
def Kb (u0 : U) (h0 : H) (p : List Clause) (fs : List Atom) (K : Value → H → Prop) : Prop := ∀ u' h' l, Step S0 u0 h0 u' h' → Rep.rep u' h' (buildF p fs).1 l → K (.tuple #[.agg l.toArray, fV (buildF p fs).2]) h'
theorem rep_core {u : U} {h : H} {k : Core} {v0 v1 v2 v3 : Value} (h0 : IsSl u h v0 k.1) (h1 : IsSl u h v1 k.2.1) (h2 : IsSl u h v2 k.2.2.1) (h3 : IsSl u h v3 k.2.2.2) : Rep.rep u h k [v0, v1, v2, v3] :=
  ⟨[v0], [v1, v2, v3], rfl, ⟨_, rfl, h0⟩, [v1], [v2, v3], rfl, ⟨_, rfl, h1⟩, [v2], [v3], rfl, ⟨_, rfl, h2⟩, ⟨_, rfl, h3⟩⟩
theorem bT11_ok {K : Value → H → Prop} {KP : List PanicEntry → H → Prop} {u0 : U} {h0 : H} {p : List Clause} {fs : List Atom} {la fa : Option Addr} {lc fc p2 p4 p5 b k : Nat} {σ : Env} {u : U} {h : H} {mp mc : Nat} {vP vC vR vF : Value} {ps : List Pred} {cs : List Const} {rs : List Rule} {rows : List Row}
    (X : BCx u0 h0 p fs la fa lc fc p2 p4 p5 b k σ u h) (B : BSt k u h b mp mc vP vC vR vF ps cs rs rows) (hb : buildF p fs = ((ps, cs, rs, rows), 0, 0, 0)) (hK : Kb u0 h0 p fs K) : wpS G_crBuild bT11 (retQ crBuild_E (callK K KP)) σ h := by
  obtain ⟨z1, z2, z3, z4, z5, z6, z7, z8, z9⟩ := B.open
  obtain ⟨pa, pc, rfl, -, -⟩ := B.oP.sl
  obtain ⟨ca, cc, rfl, -, -⟩ := B.oC.sl
  obtain ⟨ra, rc, rfl, -, -⟩ := B.oR.sl
  obtain ⟨wa, wc, rfl, -, -⟩ := B.oF.sl
  have F := X.F
  have C := X.C
  have lt := X.lt
  have hFl := F.1
  have hCl := C.1
  have sw1 : Step (fun j => j = p4) u h u (hsets h p4 0 [.slice pa ps.length pc, .slice ca cs.length cc, .slice ra rs.length rc, .slice wa rows.length wc]) := Step.sets u h _ rfl (by rw [C.2.2.2.1]; exact Nat.le_refl _) (by rw [C.2.1]; exact Nat.le_refl _)
  have F1 := F.step sw1 (fun e => lt.2.2.2.2.2.2.2.2.1 (by have e : p5 = p4 := e; exact e.symm))
  have C1 := C.sets (l := [.slice pa ps.length pc, .slice ca cs.length cc, .slice ra rs.length rc, .slice wa rows.length wc]) rfl
  have sw2 : Step (fun j => j = p5) u (hsets h p4 0 [.slice pa ps.length pc, .slice ca cs.length cc, .slice ra rs.length rc, .slice wa rows.length wc]) u (hsets (hsets h p4 0 [.slice pa ps.length pc, .slice ca cs.length cc, .slice ra rs.length rc, .slice wa rows.length wc]) p5 0 [.int .i64 0, .int .i64 0, .int .i64 0]) := Step.sets u _ _ rfl (by rw [F1.2.2.2.1]; exact Nat.le_refl _) (by rw [F1.2.1]; exact Nat.le_refl _)
  have C2 := C1.step sw2 (fun e => lt.2.2.2.2.2.2.2.2.1 (by have e : p4 = p5 := e; exact e))
  have F2 := F1.sets (l := [.int .i64 0, .int .i64 0, .int .i64 0]) rfl
  simp (disch := first | omega | (simp only [zz]; try omega; done)) only [↓reduceIte, go_sem, bT11, bT10, bT9, bT8, bT7, bT6, bT5, bT4, bT3, bT2, sS, crBuild_S, crBuild_E, X.e4, X.e5, X.e8, z1, z3, z4, z5, z6, C.2.1, C.2.2.1, F1.2.1, F1.2.2.1, C2.at, C2.2.1, F2.at, F2.2.1]
  have := hK u _ [.slice pa ps.length pc, .slice ca cs.length cc, .slice ra rs.length rc, .slice wa rows.length wc] ((X.st.trans sw1 (fun j hj e => by have e : j = p4 := e; omega)).trans sw2 (fun j hj e => by have e : j = p5 := e; omega)) (by rw [hb]; exact rep_core ((B.oP.isSl.mono sw1.ge).mono sw2.ge) ((B.oC.isSl.mono sw1.ge).mono sw2.ge) ((B.oR.isSl.mono sw1.ge).mono sw2.ge) ((B.oF.isSl.mono sw1.ge).mono sw2.ge))
  rw [hb] at this
  exact this
theorem bT10_ok {K : Value → H → Prop} {KP : List PanicEntry → H → Prop} {u0 : U} {h0 : H} {p : List Clause} {fs : List Atom} {la fa : Option Addr} {lc fc p2 p4 p5 b k : Nat} {σ : Env} {u : U} {h : H} {mp mc ms : Nat} {vP vC vR vF : Value} {ps : List Pred} {cs : List Const} {rs : List Rule} {rows : List Row}
    (X : BCx u0 h0 p fs la fa lc fc p2 p4 p5 b k σ u h) (e17 : σ 17 = .map (some ms)) (hlf : IsSl u0 h0 (.slice fa fs.length fc) fs) (B : BSt k u h b mp mc vP vC vR vF ps cs rs rows) (M : MapG ksK encK h ms (posL (rows.map key9)) rows.length) (hms : ¬ BStB b mp mc vP vC vR vF ms) (hkm : k ≤ ms)
    (hps : ps.length ≤ 1048576) (hcs : cs.length ≤ 65536) (hrw : rows.length + fs.length ≤ 1048576) (h8 : ∀ a ∈ fs, a.2.1.length ≤ 8 ∧ ∀ t ∈ a.2.1, Rep.wf (cnst t)) (hfl : fs.length ≤ 4096)
    (hb : buildF p fs = ((ps, cs, rs, fs.foldl (fun l a => factT l (rowF ps cs a)) rows), 0, 0, 0)) (hK : Kb u0 h0 p fs K) : wpS G_crBuild bT10 (retQ crBuild_E (callK K KP)) σ h := by
  rw [bT10_cut]
  simp (disch := first | omega | (simp only [zz]; try omega; done)) only [↓reduceIte, go_sem, bT10, bT9, bT8, bT7, bT6, bT5, bT4, bT3, bT2, sS, sF, crBuild_S, X.e1]
  obtain ⟨I, hI⟩ : ∃ I : Nat → Env → H → Prop, I = fun i σ' h' => σ' 17 = .map (some ms) ∧ σ' 151 = .slice fa fs.length fc ∧ σ' 152 = .int .i64 fs.length ∧ σ' 153 = .int .i64 i ∧ i ≤ fs.length ∧
    ∃ (u' : U) (vi : Value) (ri : List Row), BCx u0 h0 p fs la fa lc fc p2 p4 p5 b k σ' u' h' ∧ BSt k u' h' b mp mc vP vC vR vi ps cs rs ri ∧ MapG ksK encK h' ms (posL (ri.map key9)) ri.length ∧ ¬ BStB b mp mc vP vC vR vi ms ∧ ri.length ≤ rows.length + i ∧
      fs.foldl (fun l a => factT l (rowF ps cs a)) rows = (fs.drop i).foldl (fun l a => factT l (rowF ps cs a)) ri := ⟨_, rfl⟩
  refine wpS_loop I (fun i => fs.length - i) 0 (by
    rw [hI]
    exact ⟨by simp [upd, e17], by simp [upd], by simp [upd], by simp [upd], Nat.zero_le _, u, vF, rows, X.step (S := S0) (.refl _ _ _) (fun _ h => h.elim) _ (by simp [upd]) (by simp [upd]) (by simp [upd]) (by simp [upd]) (by simp [upd]), B, M, hms, Nat.le_refl _, rfl⟩) ?_
  clear B M hms X e17
  intro i σ h' hy
  rw [hI] at hy
  obtain ⟨e17, e151, e152, e153, hi, u', vi, ri, X, B, M, hms, hrl, heq⟩ := hy
  by_cases hlt : i < fs.length
  · obtain ⟨x, hs⟩ : ∃ x, fs[i]? = some x := ⟨fs[i], by simp [hlt]⟩
    have hdr : fs.drop i = x :: fs.drop (i + 1) := by
      obtain ⟨hi', rfl⟩ := List.getElem?_eq_some_iff.1 hs
      exact List.drop_eq_getElem_cons hi'
    rw [hdr, List.foldl_cons] at heq
    have hx := h8 x (List.mem_of_getElem? hs)
    obtain ⟨pb, po, rfl, hpb, hpu, hpz, hpr⟩ := (hlf.mono X.st.ge).row i x hs
    have hprs := hpr
    rw [rep_atom] at hpr
    obtain ⟨pv, hpr, hpv⟩ := hpr
    obtain ⟨pva, pvc, rfl, r1, r2⟩ := hpv.sl
    have hcells := hpr
    simp only [sz_atom, hvs_3, List.cons.injEq, and_true] at hpr hpu hpz
    obtain ⟨p0, p1, p2'⟩ := hpr
    have sp := Step.push0 S0 u' h' #[str x.1, .slice pva x.2.1.length pvc, .int .i64 x.2.2] 45
    rw [hcells] at hprs
    have hlt2 := X.lt
    have hfr : k ≤ h'.size := X.lt.2.2.2.2.2.2.2.2.2.2
    simp (disch := first | omega | (simp only [zz]; try omega; done)) only [↓reduceIte, go_sem, crBuild_L4, X.e8, e17, e151, e152, e153, hlt, p0, p1, p2']
    refine effS_call (gb_fact ⟨k, ub u' h'.size 0, b, mp, mc, ms, vP, vC, vR, vi, _, x, ps, cs, rs, ri, rfl, Rep.mono sp.ge hprs, B.step sp (fun _ _ h => h), M.step sp (fun h => h), hms, hx.1, hx.2, hps, hcs, by omega, by simp only [e_psz]; omega, fun u3 h3 vj s3 B3 M3 b3 => ⟨by simp (disch := first | omega | (simp only [zz]; try omega; done)) only [go_sem], ?_⟩⟩)
    simp (disch := first | omega | (simp only [zz]; try omega; done)) only [↓reduceIte, go_sem, e153]
    refine ⟨i + 1, ?_, by omega⟩
    rw [hI]
    have hfl2 := factT_len ri (rowF ps cs x)
    have X1 := X.step sp (fun _ h => h.elim) σ rfl rfl rfl rfl rfl
    have hml := M.lt
    refine ⟨by simp [upd, e17], by simp [upd, e151], by simp [upd, e152], by simp [upd], hlt, u3, vj, _, X1.step s3 (fun j hj => hj.elim (fun e => by omega) (fun hj => B.ge hj)) _ (by simp [upd]) (by simp [upd]) (by simp [upd]) (by simp [upd]) (by simp [upd]), B3, M3, ?_, by omega, heq⟩
    intro hj
    rcases hj with hj | hj | hj | hj | hj | hj | hj
    · exact hms (.inl hj)
    · exact hms (.inr (.inl hj))
    · exact hms (.inr (.inr (.inl hj)))
    · exact hms (.inr (.inr (.inr (.inl hj))))
    · exact hms (.inr (.inr (.inr (.inr (.inl hj)))))
    · exact hms (.inr (.inr (.inr (.inr (.inr (.inl hj))))))
    · rcases b3 _ hj with hj | hj
      · exact hms (.inr (.inr (.inr (.inr (.inr (.inr hj))))))
      · simp only [e_psz] at hj; omega
  · obtain rfl : i = fs.length := by omega
    rw [List.drop_length, List.foldl_nil] at heq
    rw [heq] at hb
    simp (disch := first | omega | (simp only [zz]; try omega; done)) only [↓reduceIte, go_sem, crBuild_L4, e152, e153]
    exact bT11_ok (X.step (S := S0) (.refl _ _ _) (fun _ h => h.elim) _ (by simp [upd]) (by simp [upd]) (by simp [upd]) (by simp [upd]) (by simp [upd])) B hb hK
end Go.Proofs.Ytkobamedfbgjbaa
