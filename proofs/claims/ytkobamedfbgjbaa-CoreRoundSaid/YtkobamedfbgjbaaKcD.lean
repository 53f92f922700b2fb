import Derived.Test.YtkobamedfbgjbaaKcB
import Derived.Test.YtkobamedfbgjbaaKpD
import Derived.Test.YtkobamedfbgjbaaKrQ
section Merged
section Merged
namespace Go.Proofs.Ytkobamedfbgjbaa
open Go Go.Ev Edict
def C_ground (vs : List Value) (h : H) (K : Value → H → Prop) : Prop := ∃ (u : U) (v : Value) (l : List Atom), vs = [v] ∧ IsSl u h v l ∧ Rep.wf l ∧ PowT u h ∧
  (∀ u' h', Step S0 u h u' h' → (∀ a ∈ l, grB a = true) → K (.int .i64 (-1)) h') ∧
  (∀ u' h' (i : Nat) (a : Atom), Step S0 u h u' h' → l[i]? = some a → grB a = false → (∀ x ∈ l.take i, grB x = true) → K (.int .i64 i) h')
def G_crGround : Ctr := fun f vs h K _ => f = 65 ∧ C_pAtom vs h K
theorem G_crGround_ok : GOk Try.prog G_crGround := by
  rintro f vs h K KP ⟨rfl, hC⟩; exact prAtom_ok hC
theorem crGround_ok {vs : List Value} {h : H} {K : Value → H → Prop} {KP : List PanicEntry → H → Prop} (hC : C_ground vs h K) : HCX Try.prog 49 vs h K KP := by
  obtain ⟨u, v, l, rfl, hl, hw, hP, hK1, hK2⟩ := hC
  obtain ⟨la, lc, rfl, q1, q2⟩ := hl.sl
  have hm := mlen'
  refine crGround_H G_crGround G_crGround_ok _ ?_
  simp (disch := first | omega | (simp only [zz]; try omega; done)) only [↓reduceIte, go_sem, crGround_S, crGround_E]
  obtain ⟨I, hI⟩ : ∃ I : Nat → Env → H → Prop, I = fun i σ h' => σ 7 = .slice la l.length lc ∧ σ 8 = .int .i64 l.length ∧ σ 9 = .int .i64 i ∧ i ≤ l.length ∧ (∀ x ∈ l.take i, grB x = true) ∧ ∃ u', Step S0 u h u' h' := ⟨_, rfl⟩
  refine wpS_loop I (fun i => l.length - i) 0 (by
    rw [hI]
    exact ⟨by simp [upd], by simp [upd], by simp [upd], Nat.zero_le _, by simp, u, .refl _ _ _⟩) ?_
  intro i σ h' hy
  rw [hI] at hy
  obtain ⟨e7, e8, e9, hi, hg, u', st⟩ := hy
  by_cases hlt : i < l.length
  · obtain ⟨x, hs⟩ : ∃ x, l[i]? = some x := ⟨l[i], by simp [hlt]⟩
    have hwx := hw.2 x (List.mem_of_getElem? hs)
    obtain ⟨pb, po, rfl, hpb, hpu, hpz, hpr⟩ := (hl.mono st.ge).row i x hs
    rw [rep_atom] at hpr
    obtain ⟨pv, hpr, hpv⟩ := hpr
    obtain ⟨pva, pvc, rfl, r1, r2⟩ := hpv.sl
    simp only [sz_atom, hvs_3, List.cons.injEq, and_true] at hpr hpu hpz
    obtain ⟨p0, p1, p2⟩ := hpr
    have sp := Step.push0 S0 u' h' #[str x.1, .slice pva x.2.1.length pvc, .int .i64 x.2.2] 45
    have X : Blk (ub u' h'.size 0) (h'.push (.cells #[str x.1, .slice pva x.2.1.length pvc, .int .i64 x.2.2] 45)) h'.size [str x.1, .slice pva x.2.1.length pvc, .int .i64 x.2.2] := (Blk.mk (by simp only [e_psz]; omega) (by simp (disch := first | omega | (simp only [zz]; try omega; done)) only [go_sem]) (by simp (disch := first | omega | (simp only [zz]; try omega; done)) only [go_sem]) (by repeat (first | (refine ub_at ?_; simp only []; done) | apply ub_zero)) (by simp (disch := first | omega | (simp only [zz]; try omega; done)) only [go_sem]))
    simp (disch := first | omega | (simp only [zz]; try omega; done)) only [↓reduceIte, go_sem, crGround_L1, e7, e8, e9, hlt, p0, p1, p2]
    refine effS_call ⟨rfl, x, _, ub u' h'.size 0, rfl, hpv.mono sp.ge, hwx, hP.mono (st.trans0 sp).ge, fun u2 h2 s s2 hse => ⟨by simp (disch := first | omega | (simp only [zz]; try omega; done)) only [go_sem], ?_⟩⟩
    have X2 := X.step0 s2
    have st2 := (st.trans0 sp).trans0 s2
    have hpv2 := (hpv.mono sp.ge).mono s2.ge
    by_cases ha : atomW x = 0
    · have hsn : ¬ s = [] := fun e => (hse.1 e) ha
      simp (disch := first | omega | (simp only [zz]; try omega; done)) only [↓reduceIte, go_sem, eq_false hsn, X2.at, X2.2.1]
      obtain ⟨J, hJ⟩ : ∃ J : Nat → Env → H → Prop, J = fun j σ' h3 => σ' 7 = .slice (some ⟨pb, po, none⟩) l.length lc ∧ σ' 8 = .int .i64 l.length ∧ σ' 9 = .int .i64 i ∧ σ' 3 = .int .i64 i ∧ σ' 19 = .slice pva x.2.1.length pvc ∧ σ' 20 = .int .i64 x.2.1.length ∧ σ' 21 = .int .i64 j ∧ j ≤ x.2.1.length ∧
        (∀ t ∈ x.2.1.take j, ¬ t.1 = 4) ∧ ∃ u3, Step S0 u h u3 h3 ∧ IsSl u3 h3 (.slice pva x.2.1.length pvc) x.2.1 := ⟨_, rfl⟩
      refine wpS_loop J (fun j => x.2.1.length - j) 0 (by
        rw [hJ]
        exact ⟨by simp [upd, e7], by simp [upd, e8], by simp [upd, e9], by simp [upd], by simp [upd], by simp [upd], by simp [upd], Nat.zero_le _, by simp, u2, st2, hpv2⟩) ?_
      clear hpv hpv2 X X2 st2 s2 sp st e7 e8 e9 hpz hpu p0 p1 p2 hpb
      intro j σ' h3 hy
      rw [hJ] at hy
      obtain ⟨e7, e8, e9, e3, e19, e20, e21, hj, hng, u3, st, hpv⟩ := hy
      by_cases hlt2 : j < x.2.1.length
      · obtain ⟨t, ht⟩ : ∃ t, x.2.1[j]? = some t := ⟨x.2.1[j], by simp [hlt2]⟩
        obtain ⟨tb, to, rfl, htb, htu, htz, htr⟩ := hpv.row j t ht
        rw [rep_term] at htr
        simp only [Term.enc, sz_term, hvs_4, List.cons.injEq, and_true] at htr htu htz
        obtain ⟨t0, t1, t2, t3⟩ := htr
        have sp := Step.push0 S0 u3 h3 #[.int .i64 t.1, .int .i64 t.2.1, str t.2.2.1, .int .i64 t.2.2.2] 94
        by_cases h4 : t.1 = 4
        · simp (disch := first | omega | (simp only [zz]; try omega; done)) only [↓reduceIte, go_sem, crGround_L2, e3, e19, e20, e21, hlt2, t0, t1, t2, t3, eq_true h4]
          refine hK2 _ _ i x (st.trans0 sp) hs ?_ hg
          unfold grB
          rw [Bool.and_eq_false_iff]
          right
          rw [List.all_eq_false]
          exact ⟨t, List.mem_of_getElem? ht, by simp [h4]⟩
        · simp (disch := first | omega | (simp only [zz]; try omega; done)) only [↓reduceIte, go_sem, crGround_L2, e19, e20, e21, hlt2, t0, t1, t2, t3, eq_false h4]
          refine ⟨j + 1, ?_, by omega⟩
          rw [hJ]
          refine ⟨by simp [upd, e7], by simp [upd, e8], by simp [upd, e9], by simp [upd, e3], by simp [upd, e19], by simp [upd, e20], by simp [upd], hlt2, fun y hy => ?_, _, st.trans0 sp, hpv.mono sp.ge⟩
          rw [List.take_add_one, ht, Option.toList_some, List.mem_append, List.mem_singleton] at hy
          rcases hy with hy | rfl
          · exact hng y hy
          · exact h4
      · obtain rfl : j = x.2.1.length := by omega
        rw [List.take_length] at hng
        have hgx : grB x = true := by
          unfold grB
          rw [Bool.and_eq_true, decide_eq_true_eq, List.all_eq_true]
          exact ⟨ha, fun t ht => by simp [hng t ht]⟩
        simp (disch := first | omega | (simp only [zz]; try omega; done)) only [↓reduceIte, go_sem, crGround_L2, e9, e20, e21]
        refine ⟨i + 1, ?_, by omega⟩
        rw [hI]
        refine ⟨by simp [upd, e7], by simp [upd, e8], by simp [upd], hlt, fun y hy => ?_, u3, st⟩
        rw [List.take_add_one, hs, Option.toList_some, List.mem_append, List.mem_singleton] at hy
        rcases hy with hy | rfl
        · exact hg y hy
        · exact hgx
    · have hsn : s = [] := hse.2 ha
      simp (disch := first | omega | (simp only [zz]; try omega; done)) only [↓reduceIte, go_sem, eq_true hsn]
      refine hK2 _ _ i x st2 hs ?_ hg
      unfold grB
      rw [decide_eq_false ha]; rfl
  · obtain rfl : i = l.length := by omega
    rw [List.take_length] at hg
    simp (disch := first | omega | (simp only [zz]; try omega; done)) only [↓reduceIte, go_sem, crGround_L1, e8, e9]
    exact hK1 _ _ st hg
end Go.Proofs.Ytkobamedfbgjbaa
end Merged
section Merged
namespace Edict
open Go Go.Ev
theorem wfi {n : Int} (h0 : -1000000 ≤ n) (h1 : n ≤ 1000000) : Rep.wf n := by
  show -9223372036854775808 ≤ n ∧ n ≤ 9223372036854775807
  omega
theorem w0 : Rep.wf (0 : Int) := wfi (by decide) (by decide)
theorem w1 : Rep.wf (1 : Int) := wfi (by decide) (by decide)
theorem w2 : Rep.wf (2 : Int) := wfi (by decide) (by decide)
theorem w3 : Rep.wf (3 : Int) := wfi (by decide) (by decide)
theorem w4 : Rep.wf (4 : Int) := wfi (by decide) (by decide)
theorem wfs {s : Byts} (h : s.length ≤ 1000000) : Rep.wf s := by
  show s.length ≤ maxLen
  have : maxLen = 9223372036854775807 := rfl
  omega
theorem wildN_len (t : Term) : (wildN t).length ≤ 1 := by unfold wildN; split <;> simp
theorem wf_wild {t : Term} (h : Rep.wf t) : Rep.wf (wildF t) := ⟨w4, w0, wfs (by have := wildN_len t; show (wildN t).length ≤ 1000000; omega), h.2.2.2⟩
theorem wf_plain {t : Term} (h : Rep.wf t) : Rep.wf (plainF t) := by
  unfold plainF
  split
  · exact ⟨w1, h.2.1, wfs (by simp), h.2.2.2⟩
  · split
    · exact ⟨w2, w0, wfs (by simp), h.2.2.2⟩
    · exact ⟨w3, w0, wfs (by simp only [List.length_take]; omega), h.2.2.2⟩
theorem wf_free {vs : Strs} {t : Term} (h : Rep.wf t) : Rep.wf (freeF vs t) := by
  unfold freeF; split; exact wf_plain h; split; exact wf_wild h; split; exact wf_plain h; exact wf_wild h
theorem wf_tied {vs : Strs} {t : Term} (h : Rep.wf t) : Rep.wf (tiedF vs t) := by
  unfold tiedF; split; exact wf_wild h; exact wf_plain h
theorem wf_freeL : ∀ (ts : List Term) (vs : Strs), (∀ t ∈ ts, Rep.wf t) → ∀ t ∈ freeL vs ts, Rep.wf t
  | [], _, _, t, h => by simp [freeL] at h
  | x :: l, vs, hw, t, h => by
    rcases List.mem_cons.1 h with rfl | h
    · exact wf_free (hw x (List.mem_cons_self ..))
    · exact wf_freeL l _ (fun y hy => hw y (List.mem_cons_of_mem _ hy)) t h
theorem wfl {α : Type} [Rep α] {l : List α} (h : l.length ≤ 1000000) (hw : ∀ x ∈ l, Rep.wf x) : Rep.wf l := by
  refine ⟨?_, hw⟩
  have : maxLen = 9223372036854775807 := rfl
  omega
theorem wf_atomM {b : Bool} {vs : Strs} {a : Atom} (h : Rep.wf a) : Rep.wf (atomM b vs a) := by
  have h8 := take8 a.2.1
  have hl := atomM_len b vs a
  refine ⟨wfs (by simp [atomM, predF]), wfl (by omega) fun t ht => ?_, h.2.2⟩
  unfold atomM at ht
  cases b
  · simp only [Bool.false_eq_true, if_false, List.mem_map] at ht
    obtain ⟨x, hx, rfl⟩ := ht
    exact wf_tied (h.2.1.2 x (List.mem_of_mem_take hx))
  · simp only [if_true] at ht
    exact wf_freeL _ _ (fun x hx => h.2.1.2 x (List.mem_of_mem_take hx)) t ht
theorem wf_zterm : Rep.wf zterm := ⟨w0, w0, wfs (Nat.zero_le _), w0⟩
theorem wf_zatom : Rep.wf zatom := ⟨wfs (Nat.zero_le _), wfl (Nat.zero_le _) (fun x hx => nomatch hx), w0⟩
theorem wf_litM {ws vs : Strs} {l : Literal} (h : Rep.wf l) : Rep.wf (litM ws vs l) := by
  unfold litM
  split
  · exact ⟨w1, wf_atomM h.2.1, w0, wf_zterm, wf_zterm, h.2.2.2.2.2⟩
  · split
    · exact ⟨w2, wf_atomM h.2.1, w0, wf_zterm, wf_zterm, h.2.2.2.2.2⟩
    · exact ⟨w3, wf_zatom, wfi (by show -1000000 ≤ 1 + l.2.2.1 % 6; omega) (by show 1 + l.2.2.1 % 6 ≤ 1000000; omega), wf_tied h.2.2.2.1, wf_tied h.2.2.2.2.1, h.2.2.2.2.2⟩
theorem wf_clauseM {c : Clause} (h : Rep.wf c) : Rep.wf (clauseM c) := by
  refine ⟨wf_atomM h.1, wfl ?_ fun x hx => ?_⟩
  · show (bodyM c.2).length ≤ 1000000
    unfold bodyM
    rw [bodyL_len, List.length_take]; omega
  · obtain ⟨vs, l, hl, rfl⟩ := bodyL_mem hx
    exact wf_litM (h.2.2 l (List.mem_of_mem_take hl))
theorem wf_right {p : List Clause} (h : Rep.wf p) : Rep.wf (rightF p) := by
  refine wfl (by have := (right_n p).2; omega) fun c hc => ?_
  obtain ⟨x, hx, rfl⟩ := List.mem_map.1 hc
  exact wf_clauseM (h.2 x (List.mem_of_mem_take hx))
theorem wf_given {fs : List Atom} (h : Rep.wf fs) : Rep.wf (givenF fs) := by
  refine wfl (by have := (givens_n fs).2; omega) fun a ha => ?_
  obtain ⟨x, hx, rfl⟩ := List.mem_map.1 ha
  exact wf_atomM (h.2 x (List.mem_of_mem_take hx))
end Edict
end Merged
end Merged
section Merged
namespace Go.Ev
open Go Edict
def ksC : List Kc := [.int .i64, .int .i64, .str]
def encC (c : Const) : Value := .agg #[.int .i64 c.1, .int .i64 c.2.1, str c.2.2]
theorem encC_inj (a b : Const) (h : encC a = encC b) : a = b := by
  obtain ⟨a1, a2, a3⟩ := a
  obtain ⟨b1, b2, b3⟩ := b
  simp only [encC, Value.agg.injEq, Array.mk.injEq, List.cons.injEq, Value.int.injEq, true_and, and_true] at h
  obtain ⟨h1, h2, h3⟩ := h
  rw [h1, h2, str_inj' h3]
theorem wf_i64 {n : Int} (h : -9223372036854775808 ≤ n ∧ n ≤ 9223372036854775807) : (Lit.int .i64 n).wf = true := by
  have e1 : IntKind.i64.min = -9223372036854775808 := by decide
  have e2 : IntKind.i64.max = 9223372036854775807 := by decide
  simp [Lit.wf, e1, e2, h.1, h.2]
theorem keyC {c : Const} (h : Rep.wf c) : keyG ksC (encC c) = true := by
  obtain ⟨h1, h2, h3⟩ := h
  have e1 := wf_i64 h1
  have e2 := wf_i64 h2
  have e3 : c.2.2.length ≤ maxLen := h3
  simp only [keyG, ksC, encC, kwsOk, kwOk, e1, e2, str, decide_true, Bool.and_true, Bool.true_and, decide_eq_true_eq]
  simpa [ByteArray.size] using e3
def ksK : List Kc := List.replicate 9 (.int .i64)
def encK (l : List Int) : Value := .agg (l.map (Value.int .i64)).toArray
theorem encK_inj (a b : List Int) (h : encK a = encK b) : a = b := by
  simp only [encK, Value.agg.injEq, Array.mk.injEq] at h
  exact List.map_inj_right (fun x y e => by simpa using e) |>.1 h
end Go.Ev
namespace Go.Proofs.Ytkobamedfbgjbaa
open Go Go.Ev Edict
theorem crConst_ok {vs : List Value} {h : H} {K : Value → H → Prop} {KP : List PanicEntry → H → Prop} (hC : C_constant vs h K) : HCX Try.prog 55 vs h K KP := by
  obtain ⟨u, t, rfl, hK⟩ := hC
  refine crConst_H (fun _ _ _ _ _ => False) (fun _ _ _ _ _ h => h.elim) _ ?_
  simp (disch := first | omega | (simp only [zz]; try omega; done)) only [↓reduceIte, go_sem, crConst_S, crConst_E, Term.enc]
  exact hK _ _ (by repeat (first | exact Step.refl _ _ _ | assumption | apply Step.pushR))
def C_numC (vs : List Value) (h : H) (K : Value → H → Prop) : Prop := ∃ (u : U) (b : Nat) (l : List Const) (c : Const), vs = [.map (some b), encC c] ∧ MapG ksC encC h b (posL l) l.length ∧ l.length ≤ 4611686018427387904 ∧ Rep.wf c ∧
  (c ∈ l → ∀ u' h', Step S0 u h u' h' → K (.tuple #[.int .i64 (idL l c), .bool false]) h') ∧ (c ∉ l → ∀ u' h', Step (fun i => i = b) u h u' h' → MapG ksC encC h' b (posL (l ++ [c])) (l.length + 1) → K (.tuple #[.int .i64 l.length, .bool true]) h')
theorem crNumC_ok {vs : List Value} {h : H} {K : Value → H → Prop} {KP : List PanicEntry → H → Prop} (hC : C_numC vs h K) : HCX Try.prog 56 vs h K KP := by
  obtain ⟨u, b, l, c, rfl, hm, hn, hw, h1, h2⟩ := hC
  refine crNumC_H (fun _ _ _ _ _ => False) (fun _ _ _ _ _ h => h.elim) _ _ ?_
  have sp : Step S0 u h _ _ := Step.push0 S0 u h #[.int .i64 c.1, .int .i64 c.2.1, str c.2.2] 131
  have X : Blk (ub u h.size 0) (h.push (.cells #[.int .i64 c.1, .int .i64 c.2.1, str c.2.2] 131)) h.size [.int .i64 c.1, .int .i64 c.2.1, str c.2.2] := (Blk.mk (by simp only [e_psz]; omega) (by simp (disch := first | omega | (simp only [zz]; try omega; done)) only [go_sem]) (by simp (disch := first | omega | (simp only [zz]; try omega; done)) only [go_sem]) (by repeat (first | (refine ub_at ?_; simp only []; done) | apply ub_zero)) (by simp (disch := first | omega | (simp only [zz]; try omega; done)) only [go_sem]))
  have hmp := hm.step sp (fun h => h)
  have hbl := hm.lt
  simp (disch := first | omega | (simp only [zz]; try omega; done)) only [↓reduceIte, go_sem, crNumC_S, crNumC_E, encC]
  refine effS_lookg (enc := encC) (s := c) encC_inj (keyC hw) hmp ⟨by simp (disch := first | omega | (simp only [zz]; try omega; done)) only [go_sem], ?_⟩
  by_cases hc : c ∈ l
  · obtain ⟨n, e⟩ : ∃ n, posL l c = some n := Option.isSome_iff_exists.1 (posL_some.2 hc)
    have e2 : idL l c = n := by unfold idL; rw [e]; rfl
    rw [e]
    simp only [lookV, if_true, Option.isSome_some, Option.getD_some]
    simp (disch := first | omega | (simp only [zz]; try omega; done)) only [↓reduceIte, go_sem]
    rw [← e2]
    exact h1 hc _ _ sp
  · have e : posL l c = none := by unfold posL; rw [if_neg hc]
    rw [e]
    simp only [lookV, if_true, Option.isSome_none, Option.getD_none]
    simp (disch := first | omega | (simp only [zz]; try omega; done)) only [↓reduceIte, go_sem]
    refine effS_lenmg hmp ⟨by simp (disch := first | omega | (simp only [zz]; try omega; done)) only [go_sem], ?_⟩
    simp (disch := first | omega | (simp only [zz]; try omega; done)) only [↓reduceIte, go_sem]
    refine effS_mputg (enc := encC) (s := c) (ub u h.size 0) encC_inj (keyC hw) hmp fun h' st hm' => ⟨by simp (disch := first | omega | (simp only [zz]; try omega; done)) only [go_sem], ?_⟩
    rw [e] at hm'
    simp only [Option.isSome_none, Bool.false_eq_true, if_false] at hm'
    have em : putg (posL l) c (l.length : Int) = posL (l ++ [c]) := by
      funext s; rw [posL_snoc hc]; rfl
    rw [em] at hm'
    simp (disch := first | omega | (simp only [zz]; try omega; done)) only [↓reduceIte, go_sem]
    refine effS_lenmg hm' ⟨by simp (disch := first | omega | (simp only [zz]; try omega; done)) only [go_sem], ?_⟩
    simp (disch := first | omega | (simp only [zz]; try omega; done)) only [↓reduceIte, go_sem]
    have e3 : ((l.length + 1 : Nat) : Int) - 1 = l.length := by omega
    rw [e3]
    exact h2 hc _ h' ((sp.mono (S' := fun i => i = b) (fun _ _ h => h.elim)).trans st (fun _ _ h => h)) hm'
theorem keyK {l : List Int} (h : l.length = 9) (hw : ∀ x ∈ l, Rep.wf x) : keyG ksK (encK l) = true := by
  match l, h with
  | [a0, a1, a2, a3, a4, a5, a6, a7, a8], _ =>
    have e := fun x hx => wf_i64 (hw x hx)
    simp only [List.mem_cons, List.not_mem_nil, or_false, forall_eq_or_imp, forall_eq] at e
    obtain ⟨e0, e1, e2, e3, e4, e5, e6, e7, e8⟩ := e
    simp [keyG, ksK, encK, kwsOk, kwOk, List.replicate, e0, e1, e2, e3, e4, e5, e6, e7, e8]
def C_numK (vs : List Value) (h : H) (K : Value → H → Prop) : Prop := ∃ (u : U) (b : Nat) (l : List (List Int)) (c : List Int), vs = [.map (some b), encK c] ∧ MapG ksK encK h b (posL l) l.length ∧ l.length ≤ 4611686018427387904 ∧ c.length = 9 ∧ (∀ x ∈ c, Rep.wf x) ∧
  (c ∈ l → ∀ u' h', Step S0 u h u' h' → K (.tuple #[.int .i64 (idL l c), .bool false]) h') ∧ (c ∉ l → ∀ u' h', Step (fun i => i = b) u h u' h' → MapG ksK encK h' b (posL (l ++ [c])) (l.length + 1) → K (.tuple #[.int .i64 l.length, .bool true]) h')
theorem crNumK_ok {vs : List Value} {h : H} {K : Value → H → Prop} {KP : List PanicEntry → H → Prop} (hC : C_numK vs h K) : HCX Try.prog 58 vs h K KP := by
  obtain ⟨u, b, l, c, rfl, hm, hn, hl, hw, h1, h2⟩ := hC
  have hkey := keyK hl hw
  obtain ⟨a0, a1, a2, a3, a4, a5, a6, a7, a8, rfl⟩ : ∃ a0 a1 a2 a3 a4 a5 a6 a7 a8, c = [a0, a1, a2, a3, a4, a5, a6, a7, a8] := by
    match c, hl with
    | [a0, a1, a2, a3, a4, a5, a6, a7, a8], _ => exact ⟨_, _, _, _, _, _, _, _, _, rfl⟩
  obtain ⟨c, hc0⟩ : ∃ c, c = [a0, a1, a2, a3, a4, a5, a6, a7, a8] := ⟨_, rfl⟩
  have henc : encK c = .agg #[.int .i64 a0, .int .i64 a1, .int .i64 a2, .int .i64 a3, .int .i64 a4, .int .i64 a5, .int .i64 a6, .int .i64 a7, .int .i64 a8] := by rw [hc0]; rfl
  rw [← hc0] at h1 h2 hkey
  rw [← hc0]
  refine crNumK_H (fun _ _ _ _ _ => False) (fun _ _ _ _ _ h => h.elim) _ _ ?_
  have sp : Step S0 u h _ _ := Step.push0 S0 u h #[.int .i64 a0, .int .i64 a1, .int .i64 a2, .int .i64 a3, .int .i64 a4, .int .i64 a5, .int .i64 a6, .int .i64 a7, .int .i64 a8] 143
  have hmp := hm.step sp (fun h => h)
  have hbl := hm.lt
  rw [henc]
  simp (disch := first | omega | (simp only [zz]; try omega; done)) only [↓reduceIte, go_sem, crNumK_S, crNumK_E]
  rw [← henc]
  refine effS_lookg (enc := encK) (s := c) encK_inj hkey hmp ⟨by simp (disch := first | omega | (simp only [zz]; try omega; done)) only [go_sem], ?_⟩
  by_cases hc : c ∈ l
  · obtain ⟨n, e⟩ : ∃ n, posL l c = some n := Option.isSome_iff_exists.1 (posL_some.2 hc)
    have e2 : idL l c = n := by unfold idL; rw [e]; rfl
    rw [e]
    simp only [lookV, if_true, Option.isSome_some, Option.getD_some]
    simp (disch := first | omega | (simp only [zz]; try omega; done)) only [↓reduceIte, go_sem]
    rw [← e2]
    exact h1 hc _ _ sp
  · have e : posL l c = none := by unfold posL; rw [if_neg hc]
    rw [e]
    simp only [lookV, if_true, Option.isSome_none, Option.getD_none]
    simp (disch := first | omega | (simp only [zz]; try omega; done)) only [↓reduceIte, go_sem]
    refine effS_lenmg hmp ⟨by simp (disch := first | omega | (simp only [zz]; try omega; done)) only [go_sem], ?_⟩
    simp (disch := first | omega | (simp only [zz]; try omega; done)) only [↓reduceIte, go_sem]
    rw [← henc]
    refine effS_mputg (enc := encK) (s := c) (ub u h.size 0) encK_inj hkey hmp fun h' st hm' => ⟨by simp (disch := first | omega | (simp only [zz]; try omega; done)) only [go_sem], ?_⟩
    rw [e] at hm'
    simp only [Option.isSome_none, Bool.false_eq_true, if_false] at hm'
    have em : putg (posL l) c (l.length : Int) = posL (l ++ [c]) := by
      funext s; rw [posL_snoc hc]; rfl
    rw [em] at hm'
    simp (disch := first | omega | (simp only [zz]; try omega; done)) only [↓reduceIte, go_sem]
    refine effS_lenmg hm' ⟨by simp (disch := first | omega | (simp only [zz]; try omega; done)) only [go_sem], ?_⟩
    simp (disch := first | omega | (simp only [zz]; try omega; done)) only [↓reduceIte, go_sem]
    have e3 : ((l.length + 1 : Nat) : Int) - 1 = l.length := by omega
    rw [e3]
    exact h2 hc _ h' ((sp.mono (S' := fun i => i = b) (fun _ _ h => h.elim)).trans st (fun _ _ h => h)) hm'
end Go.Proofs.Ytkobamedfbgjbaa
end Merged
