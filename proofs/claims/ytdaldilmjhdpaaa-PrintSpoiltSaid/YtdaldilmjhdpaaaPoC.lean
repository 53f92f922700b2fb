/- PrintSpoilt: made. -/
import Derived.Test.YtdaldilmjhdpaaaPoB
namespace Go.Ev
open Go Rep
theorem Blk.stepSet {u : U} {h : H} {b i : Nat} {cs : List Value} {v : Value} (B : Blk u h b cs) : Step (fun j => j = b) u h u (hset h b i v) := Step.set u h _ rfl (by rw [B.2.2.2.1]; exact Nat.zero_le _)
theorem Blk.stepSets {u : U} {h : H} {b : Nat} {cs l : List Value} (B : Blk u h b cs) (hl : l.length = cs.length) : Step (fun j => j = b) u h u (hsets h b 0 l) := Step.sets u h _ rfl (by rw [B.2.2.2.1]; exact Nat.le_refl _) (by rw [B.2.1, hl, Nat.zero_add]; exact Nat.le_refl _)
end Go.Ev
namespace Go.Proofs.Ytdaldilmjhdpaaa
open Go Go.Ev Edict
theorem mlenP : maxLen = 9223372036854775807 := rfl
/-- All its texts may be. -/
def AtomS (a : Atom) : Prop := a.1.length ≤ 9223372036854775807 ∧ ∀ t ∈ a.2.1, t.2.2.1.length ≤ 9223372036854775807
def C_poMade (vs : List Value) (h : H) (K : Value → H → Prop) : Prop := ∃ (u : U) (a : Atom) (l : List Value), vs = [.agg l.toArray] ∧ Rep.rep u h a l ∧ AtomS a ∧ ∀ u' h' v', Step S0 u h u' h' → Own h.size u' h' v' (madM a).2.1 → K (.agg #[str (madM a).1, v', .int .i64 a.2.2]) h'
def G_poMade : Ctr := fun f vs h K _ => (f = 11 ∧ C_poStr nameM vs h K) ∨ (f = 12 ∧ C_poTerm vs h K)
theorem G_poMade_ok : GOk Try.prog G_poMade := by
  rintro f vs h K KP (⟨rfl, hC⟩ | ⟨rfl, hC⟩)
  · exact poName_ok hC
  · exact poTerm_ok hC
theorem poMade_ok {vs : List Value} {h : H} {K : Value → H → Prop} {KP : List PanicEntry → H → Prop} (hC : C_poMade vs h K) : HCX Try.prog 4 vs h K KP := by
  obtain ⟨u, a, l, rfl, hr, ⟨ha1, ha2⟩, hK⟩ := hC
  rw [rep_atom] at hr
  obtain ⟨av, rfl, hav⟩ := hr
  obtain ⟨aa, ac, rfl, q1, q2⟩ := hav.sl
  have hm := mlenP
  refine poMade_H G_poMade G_poMade_ok _ ?_
  have s1 := Step.push0 S0 u h #[str a.1, .slice aa a.2.1.length ac, .int .i64 a.2.2] 27
  have B1 : Blk (ub u h.size 0) (h.push (.cells #[str a.1, .slice aa a.2.1.length ac, .int .i64 a.2.2] 27)) h.size [str a.1, .slice aa a.2.1.length ac, .int .i64 a.2.2] := Blk.new [str a.1, .slice aa a.2.1.length ac, .int .i64 a.2.2] _
  have s2 := Step.push0 S0 (ub u h.size 0) (h.push (.cells #[str a.1, .slice aa a.2.1.length ac, .int .i64 a.2.2] 27)) #[str [], .slice none 0 0, .int .i64 0] 27
  have B2 : Blk (ub (ub u h.size 0) (h.push (.cells #[str a.1, .slice aa a.2.1.length ac, .int .i64 a.2.2] 27)).size 0) ((h.push (.cells #[str a.1, .slice aa a.2.1.length ac, .int .i64 a.2.2] 27)).push (.cells #[str [], .slice none 0 0, .int .i64 0] 27)) (h.size + 1) [str [], .slice none 0 0, .int .i64 0] := (Blk.mk (by simp only [e_psz]; omega) (by simp (disch := first | omega | (simp only [e_ssz, e_psz, e_hszs, List.length_cons, List.length_nil]; try omega; done)) only [go_sem]) (by simp (disch := first | omega | (simp only [e_ssz, e_psz, e_hszs, List.length_cons, List.length_nil]; try omega; done)) only [go_sem]) (by repeat (first | (refine ub_at ?_; simp only [e_psz]; done) | apply ub_zero)) (by simp (disch := first | omega | (simp only [e_ssz, e_psz, e_hszs, List.length_cons, List.length_nil]; try omega; done)) only [go_sem]))
  have B12 := B1.step0 s2
  have st2 := s1.trans0 s2
  simp (disch := first | omega | (simp only [e_ssz, e_psz, e_hszs, List.length_cons, List.length_nil]; try omega; done)) only [↓reduceIte, go_sem, poMade_S, poMade_E]
  generalize ub (ub u h.size 0) (h.push (.cells #[str a.1, .slice aa a.2.1.length ac, .int .i64 a.2.2] 27)).size 0 = u2 at B2 B12 st2
  obtain ⟨h2, hh2⟩ : ∃ h2, h2 = (h.push (.cells #[str a.1, .slice aa a.2.1.length ac, .int .i64 a.2.2] 27)).push (.cells #[str [], .slice none 0 0, .int .i64 0] 27) := ⟨_, rfl⟩
  have hs2 : h2.size = h.size + 1 + 1 := by rw [hh2]; simp only [e_psz]
  rw [← hh2] at B2 B12 st2 ⊢
  clear hh2 s1 s2 B1
  have b12 := B12.1
  obtain ⟨M, hM⟩ : ∃ M : Env → H → Prop, M = fun σ' h3 => σ' 1 = .pointer (some ⟨h.size, 0, none⟩) ∧ σ' 2 = .pointer (some ⟨h.size + 1, 0, none⟩) ∧ ∃ (u3 : U) (p : Nat), Step S0 u2 h2 u3 h3 ∧ h2.size ≤ p ∧ σ' 3 = .pointer (some ⟨p, 0, none⟩) ∧ Blk u3 h3 p [str (nameM a.1), .slice none 0 0, .int .i64 a.2.2] := ⟨_, rfl⟩
  refine w_join M ?_ ?_
  · simp (disch := first | omega | (simp only [e_ssz, e_psz, e_hszs, List.length_cons, List.length_nil]; try omega; done)) only [↓reduceIte, go_sem, w_both, B12.at, B12.2.1]
    have sZ := Step.push0 S0 u2 h2 #[str [], .slice none 0 0, .int .i64 0] 27
    have Z := Blk.new (u := u2) (h := h2) [str [], .slice none 0 0, .int .i64 0] 27
    have CZ := B12.step0 sZ
    have cz := CZ.1
    refine ⟨effS_call (.inl ⟨rfl, u2, a.1, rfl, ha1, fun u3 h3 s3 => ?_⟩), effS_call (.inl ⟨rfl, ub u2 h2.size 0, a.1, rfl, ha1, fun u3 h3 s3 => ?_⟩)⟩
    · have C := B12.step0 s3
      have c := C.1
      refine ⟨by simp (disch := first | omega | (simp only [e_ssz, e_psz, e_hszs, List.length_cons, List.length_nil]; try omega; done)) only [↓reduceIte, go_sem, B12.at, C.at, C.2.1], ?_⟩
      simp (disch := first | omega | (simp only [e_ssz, e_psz, e_hszs, List.length_cons, List.length_nil]; try omega; done)) only [↓reduceIte, go_sem, C.at, C.2.1]
      have sN := Step.push0 S0 u3 h3 #[str (nameM a.1), .slice none 0 0, .int .i64 a.2.2] 27
      rw [hM]
      exact ⟨by simp [upd], by simp [upd], _, h3.size, s3.trans0 sN, s3.ge.sz, by simp [upd], Blk.new [str (nameM a.1), .slice none 0 0, .int .i64 a.2.2] _⟩
    · have C := CZ.step0 s3
      have c := C.1
      have Z3 := Z.step0 s3
      have z3 := Z3.1
      refine ⟨by simp (disch := first | omega | (simp only [e_ssz, e_psz, e_hszs, List.length_cons, List.length_nil]; try omega; done)) only [↓reduceIte, go_sem, CZ.at, C.at, C.2.1], ?_⟩
      have sw := Z3.stepSets (l := [str (nameM a.1), .slice none 0 0, .int .i64 a.2.2]) rfl
      have E := Z3.sets (l := [str (nameM a.1), .slice none 0 0, .int .i64 a.2.2]) rfl
      simp (disch := first | omega | (simp only [e_ssz, e_psz, e_hszs, List.length_cons, List.length_nil]; try omega; done)) only [↓reduceIte, go_sem, Z3.2.1, Z3.2.2.1]
      rw [hM]
      exact ⟨by simp [upd], by simp [upd], _, h2.size, (sZ.trans0 s3).own sw (fun j e => by have e : j = h2.size := e; omega), Nat.le_refl _, by simp [upd], E⟩
  intro σ3 h3 hM3
  rw [hM] at hM3
  obtain ⟨g1, g2, u3, p, s3, hp, g3, B3⟩ := hM3
  have st3 := st2.trans0 s3
  have hav3 := hav.mono st3.ge
  simp (disch := first | omega | (simp only [e_ssz, e_psz, e_hszs, List.length_cons, List.length_nil]; try omega; done)) only [go_sem]
  obtain ⟨I, hI⟩ : ∃ I : Nat → Env → H → Prop, I = fun i σ h' => σ 1 = .pointer (some ⟨h.size, 0, none⟩) ∧ σ 2 = .pointer (some ⟨h.size + 1, 0, none⟩) ∧ σ 3 = .pointer (some ⟨p, 0, none⟩) ∧ σ 4 = .int .i64 i ∧ i ≤ a.2.1.length ∧ i ≤ 8 ∧
    ∃ (u' : U) (vA : Value), Step S0 u h u' h' ∧ Own (p + 1) u' h' vA ((a.2.1.take i).map trmM) ∧ Blk u' h' h.size [str a.1, .slice aa a.2.1.length ac, .int .i64 a.2.2] ∧ Blk u' h' (h.size + 1) [str [], .slice none 0 0, .int .i64 0] ∧ Blk u' h' p [str (nameM a.1), vA, .int .i64 a.2.2] ∧ IsSl u' h' (.slice aa a.2.1.length ac) a.2.1 := ⟨_, rfl⟩
  refine wpS_loop I (fun i => a.2.1.length - i) 0 (by rw [hI]; exact ⟨by simp [upd, g1], by simp [upd, g2], by simp [upd, g3], by simp [upd], Nat.zero_le _, Nat.zero_le _, _, .slice none 0 0, st3, .nil _ _ _, B12.step0 s3, B2.step0 s3, B3, hav3⟩) ?_
  clear B12 B2 B3 st3 st2 s3 hav3 hav g1 g2 g3 b12 hM
  intro i σ h1 hy
  rw [hI] at hy
  obtain ⟨e1, e2, e3, e4, hi, hi8, u1, vA, st, oA, B1, B2, B3, hav⟩ := hy
  have b1 := B1.1
  have b2 := B2.1
  have b3 := B3.1
  by_cases hlt : i < a.2.1.length ∧ i < 8
  · obtain ⟨t, hs⟩ : ∃ t, a.2.1[i]? = some t := ⟨a.2.1[i]'hlt.1, by simp [hlt.1]⟩
    have htk : (a.2.1.take (i + 1)).map trmM = (a.2.1.take i).map trmM ++ [trmM t] := by rw [List.take_add_one, hs]; simp
    have hlk : ((a.2.1.take i).map trmM).length = i := by rw [List.length_map, List.length_take]; omega
    have hts := ha2 t (List.mem_of_getElem? hs)
    have havk := hav
    obtain ⟨pb, po, rfl, hpb, hpu, hpz, hpr⟩ := hav.row i t hs
    simp only [rep_term, Term.enc, sz_term, hvs_4, List.cons.injEq, and_true] at hpr hpu hpz
    obtain ⟨l0, l1, l2, l3⟩ := hpr
    simp (disch := first | omega | (simp only [e_ssz, e_psz, e_hszs, List.length_cons, List.length_nil]; try omega; done)) only [↓reduceIte, go_sem, poMade_L1, e1, e3, e4, B1.at, B1.2.1, B3.at, B3.2.1, hlt.1, eq_true (show (i : Int) < 8 by omega), l0, l1, l2, l3]
    refine effS_call (.inr ⟨rfl, u1, t, rfl, hts, fun u2 h2' s2 => ?_⟩)
    have C3 := B3.step0 s2
    have c3 := C3.1
    have oC := oA.step0 s2
    refine ⟨by simp (disch := first | omega | (simp only [e_ssz, e_psz, e_hszs, List.length_cons, List.length_nil]; try omega; done)) only [↓reduceIte, go_sem, e3, B3.at, C3.at, C3.2.1], ?_⟩
    simp only [Term.enc]
    simp (disch := first | omega | (simp only [e_ssz, e_psz, e_hszs, List.length_cons, List.length_nil]; try omega; done)) only [↓reduceIte, go_sem, e3, C3.at, C3.2.1]
    have st2 := st.trans0 s2
    refine effS_app1o rfl oC (x := trmM t) (cs := Term.enc (trmM t)) (by rw [rep_term]) rfl rfl (by omega) (by rw [hlk]; omega) fun a3 n3 c3' u3 h3 o3 s3 b3' => ⟨by simp (disch := first | omega | (simp only [e_ssz, e_psz, e_hszs, List.length_cons, List.length_nil]; try omega; done)) only [go_sem], ?_⟩
    have ne : ∀ j, OwnB vA j → p + 1 ≤ j := fun j hj => oC.ge hj
    have D1 := (B1.step0 s2).step s3 (fun hj => by have := ne _ hj; omega)
    have D2 := (B2.step0 s2).step s3 (fun hj => by have := ne _ hj; omega)
    have D3 := C3.step s3 (fun hj => by have := ne _ hj; omega)
    have st3 := st2.own s3 (fun j hj => by have := ne _ hj; omega)
    have sw := D3.stepSet (i := 1) (v := .slice a3 n3 c3')
    have E3 := D3.set (i := 1) (v := .slice a3 n3 c3') (by simp)
    have d3 := D3.1
    have x3 := D3.2.1
    have y3 := D3.2.2.1
    simp (disch := first | omega | (simp only [e_ssz, e_psz, e_hszs, List.length_cons, List.length_nil]; try omega; done)) only [↓reduceIte, go_sem, e3, e4, x3, y3]
    refine ⟨i + 1, ?_, by omega⟩
    rw [hI]
    refine ⟨by simp [upd, e1], by simp [upd, e2], by simp [upd, e3], by simp [upd], hlt.1, hlt.2, u3, _, st3.own sw (fun j e => by have e : j = p := e; omega), ?_, D1.step sw (by omega), D2.step sw (by omega), E3, ((havk.mono s2.ge).mono s3.ge).mono sw.ge⟩
    rw [htk]
    exact o3.step sw (fun j hj e => by have := o3.ge hj; have e : j = p := e; omega)
  · have htk : a.2.1.take i = a.2.1.take 8 := by
      by_cases hll : i < a.2.1.length
      · rw [show i = 8 by omega]
      · rw [List.take_of_length_le (by omega), List.take_of_length_le (by omega)]
    rw [htk] at oA
    have oM : Own (p + 1) u1 h1 vA (madM a).2.1 := oA
    obtain ⟨xa, xc, rfl, -, -⟩ := oM.sl
    have sw := B2.stepSets (l := [str (nameM a.1), .slice xa (madM a).2.1.length xc, .int .i64 a.2.2]) rfl
    have E2 := B2.sets (l := [str (nameM a.1), .slice xa (madM a).2.1.length xc, .int .i64 a.2.2]) rfl
    have oF := (oM.step sw (fun j hj e => by have := oM.ge hj; have e : j = h.size + 1 := e; omega)).mono (k' := h.size) (by omega)
    have stf := st.own sw (fun j e => by have e : j = h.size + 1 := e; omega)
    by_cases hll : i < a.2.1.length
    · simp (disch := first | omega | (simp only [e_ssz, e_psz, e_hszs, List.length_cons, List.length_nil]; try omega; done)) only [↓reduceIte, go_sem, poMade_L1, e1, e2, e3, e4, B1.at, B1.2.1, B3.at, B3.2.1, B2.2.1, B2.2.2.1, E2.at, E2.2.1, hll, eq_false (show ¬ (i : Int) < 8 by omega)]
      exact hK _ _ _ stf oF
    · simp (disch := first | omega | (simp only [e_ssz, e_psz, e_hszs, List.length_cons, List.length_nil]; try omega; done)) only [↓reduceIte, go_sem, poMade_L1, e1, e2, e3, e4, B1.at, B1.2.1, B3.at, B3.2.1, B2.2.1, B2.2.2.1, E2.at, E2.2.1, eq_false hll]
      exact hK _ _ _ stf oF
end Go.Proofs.Ytdaldilmjhdpaaa
