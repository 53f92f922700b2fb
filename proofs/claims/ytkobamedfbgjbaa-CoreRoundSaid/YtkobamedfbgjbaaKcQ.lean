/- core: Build. -/
import Derived.Test.YtkobamedfbgjbaaKcO
namespace Edict
theorem form_zero {p : List Clause} {fs : List Atom} (h : formF p fs = (0, 0, 0)) : wellW p = 0 ∧ fs.length ≤ 4096 ∧ ∀ a ∈ fs, grB a = true := by
  unfold formF at h
  split at h
  · rename_i hw; exact absurd (congrArg (fun f : Flt => f.1) h) hw
  · rename_i hw
    have hw : wellW p = 0 := Classical.byContradiction hw
    split at h
    · cases h
    · rename_i h4
      refine ⟨hw, by omega, fun a ha => ?_⟩
      split at h
      · cases h
      · rename_i hf
        rw [List.find?_eq_none] at hf
        have := hf a ha
        simpa using this
theorem build_err1 {p : List Clause} {fs : List Atom} (h : formF p fs ≠ (0, 0, 0)) : buildF p fs = (core0, (formF p fs).1, (formF p fs).2.1, (formF p fs).2.2) := by
  unfold buildF; rw [if_pos h]
theorem build_err2 {p : List Clause} {fs : List Atom} (h : formF p fs = (0, 0, 0)) (h2 : boundF p ≠ (0, 0, 0)) : buildF p fs = (core0, (boundF p).1, (boundF p).2.1, (boundF p).2.2) := by
  unfold buildF; rw [if_neg (by simp [h]), if_pos h2]
theorem build_mid {p : List Clause} {fs : List Atom} (h : formF p fs = (0, 0, 0)) (h2 : boundF p = (0, 0, 0)) : buildF p fs = match takeF ([], []) p with
      | (_, some t) => (core0, 6, 0, t.2.2.2)
      | ((ps, cs), none) => midF p fs ps cs := by
  unfold buildF midF
  rw [if_neg (by simp [h]), if_neg (by simp [h2])]
  generalize takeF ([], []) p = r
  obtain ⟨⟨ps, cs⟩, o⟩ := r
  cases o with
  | some t => rfl
  | none =>
    simp only
    generalize takeA cs fs = q
    obtain ⟨cs', o⟩ := q
    cases o <;> rfl
theorem flt_ne {f : Flt} (h : f ≠ (0, 0, 0)) : (decide (f.1 = 0) && (decide (f.2.1 = 0) && decide (f.2.2 = 0))) = false := by
  cases hd : (decide (f.1 = 0) && (decide (f.2.1 = 0) && decide (f.2.2 = 0))) with
  | false => rfl
  | true =>
    simp only [Bool.and_eq_true, decide_eq_true_eq] at hd
    exact absurd (Prod.ext hd.1 (Prod.ext hd.2.1 hd.2.2)) h
end Edict
namespace Go.Proofs.Ytkobamedfbgjbaa
open Go Go.Ev Edict
def C_build (vs : List Value) (h : H) (K : Value → H → Prop) : Prop := ∃ (u : U) (v w : Value) (p : List Clause) (fs : List Atom), vs = [.agg #[v], w] ∧ IsSl u h v p ∧ IsSl u h w fs ∧ Rep.wf p ∧ Rep.wf fs ∧ PowT u h ∧ Kb u h p fs K
theorem wf_cnst {t : Term} (h : Rep.wf t) : Rep.wf (cnst t) := ⟨h.1, h.2.1, h.2.2.1⟩
theorem crBuild_ok {vs : List Value} {h : H} {K : Value → H → Prop} {KP : List PanicEntry → H → Prop} (hC : C_build vs h K) : HCX Try.prog 9 vs h K KP := by
  obtain ⟨u, v, w, p, fs, rfl, hl, hlf, hwp, hwf, hP, hK⟩ := hC
  obtain ⟨la, lc, rfl, q1, q2⟩ := hl.sl
  obtain ⟨fa, fc, rfl, q3, q4⟩ := hlf.sl
  have hm := mlen'
  refine crBuild_H G_crBuild G_crBuild_ok _ _ ?_
  rw [bS_cut]
  simp (disch := first | omega | (simp only [zz]; try omega; done)) only [↓reduceIte, go_sem, sF, crBuild_S]
  have sA := Step.push0 S0 u h #[.slice la p.length lc] 24
  have A0 : Blk (ub u h.size 0) (h.push (.cells #[.slice la p.length lc] 24)) h.size [.slice la p.length lc] := (Blk.mk (by simp only [e_psz]; omega) (by simp (disch := first | omega | (simp only [zz]; try omega; done)) only [go_sem]) (by simp (disch := first | omega | (simp only [zz]; try omega; done)) only [go_sem]) (by repeat (first | (refine ub_at ?_; simp only []; done) | apply ub_zero)) (by simp (disch := first | omega | (simp only [zz]; try omega; done)) only [go_sem]))
  have sB := Step.push0 S0 (ub u h.size 0) (h.push (.cells #[.slice la p.length lc] 24)) #[.slice none 0 0, .slice none 0 0, .slice none 0 0, .slice none 0 0] 33
  have B0 : Blk (ub (ub u h.size 0) (h.push (.cells #[.slice la p.length lc] 24)).size 0) ((h.push (.cells #[.slice la p.length lc] 24)).push (.cells #[.slice none 0 0, .slice none 0 0, .slice none 0 0, .slice none 0 0] 33)) (h.size + 1) [.slice none 0 0, .slice none 0 0, .slice none 0 0, .slice none 0 0] := (Blk.mk (by simp only [e_psz]; omega) (by simp (disch := first | omega | (simp only [zz]; try omega; done)) only [go_sem]) (by simp (disch := first | omega | (simp only [zz]; try omega; done)) only [go_sem]) (by repeat (first | (refine ub_at ?_; simp only [e_psz]; done) | apply ub_zero)) (by simp (disch := first | omega | (simp only [zz]; try omega; done)) only [go_sem]))
  obtain ⟨h1, hh1⟩ : ∃ h1, h1 = (h.push (.cells #[.slice la p.length lc] 24)).push (.cells #[.slice none 0 0, .slice none 0 0, .slice none 0 0, .slice none 0 0] 33) := ⟨_, rfl⟩
  have A1 := A0.step0 sB
  have st1 := sA.trans0 sB
  generalize ub (ub u h.size 0) (h.push (.cells #[.slice la p.length lc] 24)).size 0 = u1 at A1 B0 st1
  rw [← hh1] at A1 B0 st1 ⊢
  have hs1 : h1.size = h.size + 2 := by rw [hh1]; simp only [e_psz]
  clear hh1 sA sB A0
  have sC := Step.push0 S0 u1 h1 #[.int .i64 0, .int .i64 0, .int .i64 0] 36
  have F2 : Blk (ub u1 h1.size 0) (h1.push (.cells #[.int .i64 0, .int .i64 0, .int .i64 0] 36)) h1.size [.int .i64 0, .int .i64 0, .int .i64 0] := (Blk.mk (by simp only [e_psz]; omega) (by simp (disch := first | omega | (simp only [zz]; try omega; done)) only [go_sem]) (by simp (disch := first | omega | (simp only [zz]; try omega; done)) only [go_sem]) (by repeat (first | (refine ub_at ?_; simp only []; done) | apply ub_zero)) (by simp (disch := first | omega | (simp only [zz]; try omega; done)) only [go_sem]))
  have A2 := A1.step0 sC
  have B2 := B0.step0 sC
  have st2 := st1.trans0 sC
  obtain ⟨h2, hh2⟩ : ∃ h2, h2 = h1.push (.cells #[.int .i64 0, .int .i64 0, .int .i64 0] 36) := ⟨_, rfl⟩
  generalize ub u1 h1.size 0 = u2 at A2 B2 F2 st2
  rw [← hh2] at A2 B2 F2 st2 ⊢
  have hs2 : h2.size = h.size + 3 := by rw [hh2]; simp only [e_psz]; omega
  clear hh2 sC A1 B0 st1
  rw [hs1] at F2
  clear hs1 h1
  generalize hσ : upd (upd (upd (upd (upd env0 0 (.agg #[.slice la p.length lc])) 1 (.slice fa fs.length fc)) 2 (.pointer (some ⟨h.size, 0, none⟩))) 4 (.pointer (some ⟨h.size + 1, 0, none⟩))) 5 (.pointer (some ⟨h.size + 1 + 1, 0, none⟩)) = σ
  have e1 : σ 1 = .slice fa fs.length fc := by rw [← hσ]; simp [upd]
  have e2 : σ 2 = .pointer (some ⟨h.size, 0, none⟩) := by rw [← hσ]; simp [upd]
  have e4 : σ 4 = .pointer (some ⟨h.size + 1, 0, none⟩) := by rw [← hσ]; simp [upd]
  have e5 : σ 5 = .pointer (some ⟨h.size + 2, 0, none⟩) := by rw [← hσ]; simp [upd]
  clear hσ
  -- for the answers of faults
  have errX : ∀ (u' : U) (h' : H), Step S0 u h u' h' → Blk u' h' h.size [.slice la p.length lc] → Blk u' h' (h.size + 1) [.slice none 0 0, .slice none 0 0, .slice none 0 0, .slice none 0 0] → Blk u' h' (h.size + 2) [.int .i64 0, .int .i64 0, .int .i64 0] →
      BCx u h p fs la fa lc fc h.size (h.size + 1) (h.size + 2) 0 (h.size + 3) (upd (upd (upd (upd (upd env0 1 (.slice fa fs.length fc)) 2 (.pointer (some ⟨h.size, 0, none⟩))) 4 (.pointer (some ⟨h.size + 1, 0, none⟩))) 5 (.pointer (some ⟨h.size + 2, 0, none⟩))) 8 (.pointer (some ⟨0, 0, none⟩))) u' h' := fun u' h' st A B F =>
    ⟨by simp [upd], by simp [upd], by simp [upd], by simp [upd], by simp [upd], st, A, B, F, by have := F.1; omega⟩
  have ha2 := A2.1
  rw [bT2_cut]
  simp (disch := first | omega | (simp only [zz]; try omega; done)) only [↓reduceIte, go_sem, bT2, sS, sF, crBuild_S, e1, e2, A2.at, A2.2.1]
  refine effS_call (gb_form ⟨u2, _, _, p, fs, rfl, hl.mono st2.ge, hlf.mono st2.ge, hwp, hwf, hP.mono st2.ge, fun u3 h3 s3 => ⟨by simp (disch := first | omega | (simp only [zz]; try omega; done)) only [go_sem], ?_⟩⟩)
  have A3 := A2.step0 s3
  have B3 := B2.step0 s3
  have F3 := F2.step0 s3
  have st3 := st2.trans0 s3
  simp only [fV]
  generalize hf : formF p fs = f
  have s4 := Step.push0 S0 u3 h3 #[.int .i64 f.1, .int .i64 f.2.1, .int .i64 f.2.2] 36
  have A4 := A3.step0 s4
  have B4 := B3.step0 s4
  have F4 := F3.step0 s4
  have st4 := st3.trans0 s4
  have hb3 := B3.1
  have hf3 := F3.1
  have ha3 := A3.1
  by_cases hz : f = (0, 0, 0)
  · subst hz
    obtain ⟨hw0, hf4, hgr⟩ := form_zero hf
    simp (disch := first | omega | (simp only [zz]; try omega; done)) only [↓reduceIte, go_sem]
    generalize hσ' : upd (upd (upd (upd σ 25 (.agg #[.slice la p.length lc])) 27 (.agg #[.int .i64 0, .int .i64 0, .int .i64 0])) 6 (.pointer (some ⟨h3.size, 0, none⟩))) 30 (.bool false) = σ'
    have k1 : σ' 1 = .slice fa fs.length fc := by rw [← hσ']; simp [upd, e1]
    have k2 : σ' 2 = .pointer (some ⟨h.size, 0, none⟩) := by rw [← hσ']; simp [upd, e2]
    have k4 : σ' 4 = .pointer (some ⟨h.size + 1, 0, none⟩) := by rw [← hσ']; simp [upd, e4]
    have k5 : σ' 5 = .pointer (some ⟨h.size + 2, 0, none⟩) := by rw [← hσ']; simp [upd, e5]
    clear hσ' e1 e2 e4 e5
    simp only [] at A4 B4 F4 st4
    generalize ub u3 h3.size 0 = u4 at A4 B4 F4 st4
    generalize h3.push (.cells #[.int .i64 0, .int .i64 0, .int .i64 0] 36) = h4 at A4 B4 F4 st4 ⊢
    have ha4 := A4.1
    obtain ⟨hcW, hpl⟩ := wellW_mem hw0
    rw [bT3_cut]
    simp (disch := first | omega | (simp only [zz]; try omega; done)) only [↓reduceIte, go_sem, bT3, bT2, sS, sF, crBuild_S, k2, A4.at, A4.2.1]
    refine effS_call (gb_bound ⟨u4, _, p, rfl, hl.mono st4.ge, fun c hc => clauseW_bulk (hcW c hc), fun u5 h5 s5 => ⟨by simp (disch := first | omega | (simp only [zz]; try omega; done)) only [go_sem], ?_⟩⟩)
    have A5 := A4.step0 s5
    have B5 := B4.step0 s5
    have F5 := F4.step0 s5
    have st5 := st4.trans0 s5
    simp only [fV]
    generalize hbd : boundF p = g
    have s6 := Step.push0 S0 u5 h5 #[.int .i64 g.1, .int .i64 g.2.1, .int .i64 g.2.2] 36
    have A6 := A5.step0 s6
    have B6 := B5.step0 s6
    have F6 := F5.step0 s6
    have st6 := st5.trans0 s6
    have hb5 := B5.1
    have hf5 := F5.1
    have ha5 := A5.1
    by_cases hz2 : g = (0, 0, 0)
    · subst hz2
      have hmid := build_mid hf hbd
      simp (disch := first | omega | (simp only [zz]; try omega; done)) only [↓reduceIte, go_sem]
      simp only [] at A6 B6 F6 st6
      generalize ub u5 h5.size 0 = u6 at A6 B6 F6 st6
      generalize h5.push (.cells #[.int .i64 0, .int .i64 0, .int .i64 0] 36) = h6 at A6 B6 F6 st6 ⊢
      rw [bT4_cut]
      simp (disch := first | omega | (simp only [zz]; try omega; done)) only [go_sem, bT4, bT3, bT2, sS, sF, crBuild_S]
      refine effS_call (gb_begin ⟨u6, rfl, fun u7 h7 b mp mc s7 B7 => ⟨by simp (disch := first | omega | (simp only [zz]; try omega; done)) only [go_sem], ?_⟩⟩)
      have A7 := A6.step0 s7
      have C7 := B6.step0 s7
      have F7 := F6.step0 s7
      have st7 := st6.trans0 s7
      have hf6 := F6.1
      simp (disch := first | omega | (simp only [zz]; try omega; done)) only [↓reduceIte, go_sem]
      refine bT5_ok (k := h6.size) (b := b) (p2 := h.size) (p4 := h.size + 1) (p5 := h.size + 2) ⟨by simp [upd, k1], by simp [upd, k2], by simp [upd, k4], by simp [upd, k5], by simp [upd], st7, A7, C7, F7, by have := s7.ge.sz; omega⟩ hl hlf B7 hpl hcW ?_ (fun a ha => ⟨?_, fun t ht => wf_cnst ((hwf.2 a ha).2.1.2 t ht)⟩) hf4 hmid hK
      · intro c hc t ht
        have hwc := hwp.2 c hc
        unfold termsC at ht
        rcases List.mem_append.1 ht with ht | ht
        · exact wf_cnst (hwc.1.2.1.2 t ht)
        · obtain ⟨x, hx, ht⟩ := List.mem_flatMap.1 ht
          have hwx := hwc.2.2 x hx
          unfold termsL argsOf at ht
          split at ht
          · exact wf_cnst (hwx.2.1.2.1.2 t ht)
          · split at ht
            · simp only [List.mem_cons, List.not_mem_nil, or_false] at ht
              rcases ht with rfl | rfl
              · exact wf_cnst hwx.2.2.2.1
              · exact wf_cnst hwx.2.2.2.2.1
            · simp at ht
      · have := hgr a ha
        unfold grB at this
        rw [Bool.and_eq_true, decide_eq_true_eq] at this
        exact (atomW_bulk this.1).2
    · have hb := build_err2 (fs := fs) (p := p) hf (by rw [hbd]; exact hz2)
      rw [hbd] at hb
      have E := err_ok (errX u5 h5 st5 A5 B5 F5) hb hK
      simp (disch := first | omega | (simp only [zz]; try omega; done)) only [↓reduceIte, go_sem, flt_ne hz2, k4, k5, B5.2.1, B5.2.2.1]
      generalize hXe : hsets h5 (h.size + 1) 0 [.slice none 0 0, .slice none 0 0, .slice none 0 0, .slice none 0 0] = hX at E ⊢
      obtain ⟨y1, y2, y3, y4, y5, y6, y7, y8, y9, y10, y11, y12⟩ := E
      have y60 := y6 0 (by omega)
      have y61 := y6 1 (by omega)
      have y62 := y6 2 (by omega)
      have y63 := y6 3 (by omega)
      simp (disch := first | omega | (simp only [zz]; try omega; done)) only [↓reduceIte, go_sem, k4, k5, crBuild_E, y3, y4, y5, y60, y61, y62, y63, y7, y8, y9]
      exact y12 _ _ (Step.push0 S0 _ _ _ _)
  · have hb := build_err1 (fs := fs) (p := p) (by rw [hf]; exact hz)
    rw [hf] at hb
    have E := err_ok (errX u3 h3 st3 A3 B3 F3) hb hK
    simp (disch := first | omega | (simp only [zz]; try omega; done)) only [↓reduceIte, go_sem, flt_ne hz, e4, e5, B3.2.1, B3.2.2.1]
    generalize hXe : hsets h3 (h.size + 1) 0 [.slice none 0 0, .slice none 0 0, .slice none 0 0, .slice none 0 0] = hX at E ⊢
    obtain ⟨y1, y2, y3, y4, y5, y6, y7, y8, y9, y10, y11, y12⟩ := E
    have y60 := y6 0 (by omega)
    have y61 := y6 1 (by omega)
    have y62 := y6 2 (by omega)
    have y63 := y6 3 (by omega)
    simp (disch := first | omega | (simp only [zz]; try omega; done)) only [↓reduceIte, go_sem, e4, e5, crBuild_E, y3, y4, y5, y60, y61, y62, y63, y7, y8, y9]
    exact y12 _ _ (Step.push0 S0 _ _ _ _)
end Go.Proofs.Ytkobamedfbgjbaa
