/- The laws of core: the maker's bodies. -/
import Derived.Test.YtkobamedfbgjbaaKlC
namespace Go.Ev
open Go Rep
def Arr {α : Type} [Rep α] (u : U) (h : H) (b : Nat) (l : List α) : Prop := b < h.size ∧ hsz h b = l.length * sz α ∧ hfr h b = (0, 0) ∧ u b = 0 ∧ ∀ i x, l[i]? = some x → rep u h x (hvs h b (i * sz α) (sz α))
theorem Arr.step {α : Type} [Rep α] {S : Nat → Prop} {u u' : U} {h h' : H} {b : Nat} {l : List α} (A : Arr u h b l) (s : Step S u h u' h') (hn : ¬ S b) : Arr u' h' b l := by
  obtain ⟨a1, a2, a3, a4, a5⟩ := A
  obtain ⟨s1, s2⟩ := s.same b a1 hn
  refine ⟨Nat.lt_of_lt_of_le a1 s.ge.sz, by rw [(s.ge.hs b a1).1]; exact a2, by rw [(s.ge.hs b a1).2]; exact a3, by rw [s2]; exact a4, fun i x hx => ?_⟩
  have : hvs h' b (i * sz α) (sz α) = hvs h b (i * sz α) (sz α) := by
    unfold hvs Go.Ev.hv hc; rw [s1]
  rw [this]
  exact Rep.mono s.ge (a5 i x hx)
theorem Arr.put {α : Type} [Rep α] {u : U} {h : H} {b i : Nat} {l : List α} {x : α} {cs : List Value} (A : Arr u h b l) (hi : i < l.length) (hx : rep u h x cs) : Arr u (hsets h b (i * sz α) cs) b (l.set i x) ∧ Step (fun j => j = b) u h u (hsets h b (i * sz α) cs) := by
  obtain ⟨a1, a2, a3, a4, a5⟩ := A
  have hl := Rep.len hx
  have h1 := row_lt (s := sz α) hi
  have hfit : i * sz α + cs.length ≤ hsz h b := by rw [hl, a2]; exact h1
  have st : Step (fun j => j = b) u h u (hsets h b (i * sz α) cs) := Step.sets u h cs rfl (by rw [a4]; exact Nat.zero_le _) hfit
  refine ⟨⟨by rw [hsets_size]; exact a1, by rw [hsets_hsz, a2, List.length_set], by rw [hsets_hfr]; exact a3, a4, fun j y hy => ?_⟩, st⟩
  rw [List.getElem?_set] at hy
  by_cases e : i = j
  · subst e
    rw [if_pos rfl, if_pos hi] at hy
    cases hy
    rw [hvs_rows (cs := cs) (fun m hm => ?_) hl]
    · exact Rep.mono st.ge hx
    · rw [hsets_hv _ _ _ _ _ hfit, if_pos (by omega), Nat.add_sub_cancel_left]
  · rw [if_neg e] at hy
    have hj := (List.getElem?_eq_some_iff.1 hy).1
    have h2 := row_lt (s := sz α) hj
    have hrow : hvs (hsets h b (i * sz α) cs) b (j * sz α) (sz α) = hvs h b (j * sz α) (sz α) := by
      refine hvs_rows (fun m hm => ?_) (by simp [hvs])
      rw [hsets_hv _ _ _ _ _ hfit, if_neg (by
        rw [hl]
        rcases Nat.lt_or_ge j i with q | q
        · have := row_lt (s := sz α) q; omega
        · have := row_lt (s := sz α) (show i < j by omega); omega)]
      unfold hvs
      rw [List.getD_eq_getElem?_getD, List.getElem?_map, List.getElem?_range hm]; rfl
    rw [hrow]
    exact Rep.mono st.ge (a5 j y hy)
theorem Arr.done {α : Type} [Rep α] {u : U} {h : H} {b : Nat} {l : List α} (A : Arr u h b l) (hm : l.length ≤ maxLen) : IsSl (ub u b (l.length * sz α)) h (.slice (some ⟨b, 0, none⟩) l.length l.length) l ∧ Step (fun j => j = b) u h (ub u b (l.length * sz α)) h := by
  obtain ⟨a1, a2, a3, a4, a5⟩ := A
  have st : Step (fun j => j = b) u h (ub u b (l.length * sz α)) h := Step.settle u h rfl (by rw [a4]; exact Nat.zero_le _)
  refine ⟨⟨_, _, _, rfl, rfl, Nat.le_refl _, hm, (fun h => by cases h), fun _ => ⟨b, 0, rfl, a1, by simp [ub], by rw [a2, Nat.zero_add]; exact Nat.le_refl _, fun i x hx => ?_⟩⟩, st⟩
  rw [Nat.zero_add]
  exact Rep.mono st.ge (a5 i x hx)
theorem Arr.zeros {α : Type} [Rep α] {u : U} {h : H} {x : α} {z : List Value} {n : Nat} (e : TypeId) (hx : rep u h x z) : Arr (ub u h.size 0) (h.push (.cells (reps z n).toArray e)) h.size (List.replicate n x) := by
  have hl := Rep.len hx
  have st := Step.push S0 u h (reps z n).toArray e 0
  refine ⟨by simp, ?_, e_hfrpe rfl, by simp [ub], fun i y hy => ?_⟩
  · rw [e_hszpe rfl]; simp [reps, hl]
  · rw [List.getElem?_replicate] at hy
    split at hy
    · rename_i hi
      cases hy
      rw [hvs_rows (cs := z) (fun m hm => ?_) hl]
      · exact Rep.mono st.ge hx
      · rw [e_hvpe rfl]
        have h2 := row_lt (s := sz α) hi
        unfold reps
        rw [hl, List.getD_eq_getElem?_getD, List.getElem?_map, List.getElem?_range (by omega), Option.map_some, Option.getD_some]
        rw [show (i * sz α + m) % sz α = m by rw [Nat.add_comm, Nat.add_mul_mod_self_right, Nat.mod_eq_of_lt hm]]
    · cases hy
end Go.Ev
namespace Edict
theorem bodyL_get (f : Strs → Literal → Literal) : ∀ (l : List Literal) (vs : Strs) (j : Nat), (bodyL f vs l)[j]? = l[j]?.map (f ((l.take j).foldl litV vs))
  | [], _, _ => by simp [bodyL]
  | x :: l, vs, 0 => by simp [bodyL]
  | x :: l, vs, j + 1 => by simp only [bodyL, List.getElem?_cons_succ, List.take_succ_cons, List.foldl_cons]; exact bodyL_get f l _ j
end Edict
namespace Go.Proofs.Ytkobamedfbgjbaa
open Go Go.Ev Edict
def LtB (x : Literal) : Prop := AtB x.2.1 ∧ SizB x.2.2.2.1.2.2.1 ∧ SizB x.2.2.2.2.1.2.2.1
def zcells : List Value := [.int .i64 0, str [], .slice none 0 0, .int .i64 0, .int .i64 0, .int .i64 0, .int .i64 0, str [], .int .i64 0, .int .i64 0, .int .i64 0, str [], .int .i64 0, .int .i64 0]
theorem rep_zlit {u : U} {h : H} : Rep.rep u h zlit zcells := by
  rw [rep_literal]; exact ⟨_, rfl, .nil _ _⟩
def C_mBody (vs : List Value) (h : H) (K : Value → H → Prop) : Prop := ∃ (k : Nat) (u : U) (bm : Nat) (vV v : Value) (ls : List Literal), vs = [.pointer (some ⟨bm, 0, none⟩), v] ∧ IsSl u h v ls ∧ (∀ x ∈ ls, LtB x) ∧ MkS k u h bm vV [] ∧
  ∀ u' h' vV' w, Step (MkB bm vV) u h u' h' → MkS k u' h' bm vV' (bodyV ls) → (∀ i, OwnB vV' i → OwnB vV i ∨ h.size ≤ i) → IsSl u' h' w (bodyM ls) → K w h'
def G_klBody : Ctr := fun f vs h K _ => (f = 16 ∧ C_klMod vs h K) ∨ (f = 24 ∧ C_mAtom vs h K) ∨ (f = 45 ∧ C_tied vs h K)
theorem G_klBody_ok : GOk Try.prog G_klBody := by
  rintro f vs h K KP (⟨rfl, hC⟩ | ⟨rfl, hC⟩ | ⟨rfl, hC⟩)
  · exact klMod_ok hC
  · exact klAtom_ok hC
  · exact klTied_ok hC
theorem klBody_ok {vs : List Value} {h : H} {K : Value → H → Prop} {KP : List PanicEntry → H → Prop} (hC : C_mBody vs h K) : HCX Try.prog 23 vs h K KP := by
  obtain ⟨k, u, bm, vV, v, ls, rfl, hl, hLB, M0, hK⟩ := hC
  obtain ⟨la, lc, rfl, q1, q2⟩ := hl.sl
  have hm := mlen'
  obtain ⟨L, hL⟩ : ∃ L, L = ls.take 16 := ⟨_, rfl⟩
  have hn16 : L.length ≤ 16 := by rw [hL, List.length_take]; exact Nat.min_le_left _ _
  have hmin : L.length = if 16 < ls.length then 16 else ls.length := by rw [hL, List.length_take]; split <;> omega
  have hmm : (if (16 : Int) < ls.length then (16 : Int) else ls.length) = L.length := by rw [hmin]; split <;> split <;> omega
  have hsL : ∀ (i : Nat) (x : Literal), L[i]? = some x → ls[i]? = some x := fun i x hx => by rw [hL, List.getElem?_take] at hx; split at hx; exact hx; cases hx
  have hlL : L.length ≤ ls.length := by rw [hmin]; split <;> omega
  refine klBody_H G_klBody G_klBody_ok _ _ ?_
  have hbl := M0.1.1
  have sA := Step.push0 S0 u h (reps zcells L.length).toArray 109
  have A := Arr.zeros (u := u) (h := h) (n := L.length) 109 (rep_zlit (u := u) (h := h))
  have M1 := M0.step sA (fun _ _ h => h)
  simp (disch := first | omega | (simp only [zz]; try omega; done)) only [↓reduceIte, go_sem, klBody_S, klBody_E, hmm]
  refine ⟨Nat.le_refl _, by omega, ?_⟩
  obtain ⟨po, hpo⟩ : ∃ po, po = h.size := ⟨_, rfl⟩
  obtain ⟨vA, hvA⟩ : ∃ vA : Nat → Strs, vA = fun j => (L.take j).foldl litV [] := ⟨_, rfl⟩
  have hvS : ∀ (i : Nat) (x : Literal), L[i]? = some x → vA (i + 1) = litV (vA i) x := fun i x hx => by rw [hvA]; exact fold_snoc hx
  obtain ⟨I, hI⟩ : ∃ I : Nat → Env → H → Prop, I = fun i σ h' => σ 0 = .pointer (some ⟨bm, 0, none⟩) ∧ σ 1 = .slice la ls.length lc ∧ σ 5 = .int .i64 L.length ∧ σ 6 = .slice (some ⟨po, 0, none⟩) L.length L.length ∧ σ 7 = .int .i64 i ∧ i ≤ L.length ∧
    ∃ (u' : U) (vVi : Value) (li : Strs) (outs : List Literal), Step (MkB bm vV) u h u' h' ∧ MkS k u' h' bm vVi li ∧ (∀ j, OwnB vVi j → OwnB vV j ∨ h.size ≤ j) ∧ (∀ j, OwnB vVi j → j ≠ po) ∧ Arr u' h' po outs ∧ outs.length = L.length ∧ li = vA i ∧ li.length ≤ 16 ∧ ∀ j x, L[j]? = some x → outs[j]? = some (if j < i then lit1 (vA j) x else zlit) := ⟨_, rfl⟩
  refine wpS_loop I (fun i => L.length - i) 0 (by
    rw [hI]
    exact ⟨by simp [upd], by simp [upd], by simp [upd], by simp [upd, hpo], by simp [upd], Nat.zero_le _, _, vV, [], _, sA.mono (fun _ _ h => h.elim), M1, fun j hj => .inl hj, fun j hj => by have := M0.2.1.lt hj; omega, by rw [hpo]; exact A, by simp, by rw [hvA]; rfl, Nat.zero_le _, fun j x hx => by
      rw [if_neg (Nat.not_lt_zero _), List.getElem?_replicate, if_pos (List.getElem?_eq_some_iff.1 hx).1]⟩) ?_
  clear A M1 sA
  intro i σ h' hy
  rw [hI] at hy
  obtain ⟨e0, e1, e5, e6, e7, hi, u', vVi, li, outs, st, M, hVi, hVp, A, hol, hli, hl16, hO⟩ := hy
  have hal := A.1
  have hz := st.ge.sz
  by_cases hlt : i < L.length
  · obtain ⟨x, hs⟩ : ∃ x, L[i]? = some x := ⟨L[i], by simp [hlt]⟩
    have hsa := hsL i x hs
    have hil := (List.getElem?_eq_some_iff.1 hsa).1
    have hLx := hLB x (List.mem_of_getElem? hsa)
    obtain ⟨pb, qo, rfl, hpb, hpu, hpz, hpr⟩ := (hl.mono st.ge).row i x hsa
    rw [rep_literal] at hpr
    obtain ⟨pv, hpr, hpv⟩ := hpr
    obtain ⟨pva, pvc, rfl, r1, r2⟩ := hpv.sl
    simp only [Term.enc, sz_literal, hvs_14, List.cons_append, List.nil_append, List.cons.injEq, and_true] at hpr hpu hpz
    obtain ⟨l0, l1, l2, l3, l4, l5, l6, l7, l8, l9, l10, l11, l12, l13⟩ := hpr
    have hvx := hvS i x hs
    simp (disch := first | omega | (simp only [zz]; try omega; done)) only [↓reduceIte, go_sem, klBody_L1, e1, e5, e7, hlt, hil, l0]
    refine effS_call (.inl ⟨rfl, x.1, 4, rfl, by decide, by decide, ⟨by simp (disch := first | omega | (simp only [zz]; try omega; done)) only [go_sem], ?_⟩⟩)
    by_cases hk2 : x.1 % 4 < 2
    · have hW : litV li x = atomV true li x.2.1 := by unfold litV; rw [if_pos hk2]
      simp (disch := first | omega | (simp only [zz]; try omega; done)) only [↓reduceIte, go_sem, e0, e1, e7, hil, eq_true hk2, l1, l2, l3, l13]
      refine effS_call (.inr (.inl ⟨rfl, k, u', bm, vVi, li, x.2.1, [str x.2.1.1, .slice pva x.2.1.2.1.length pvc, .int .i64 x.2.1.2.2], true, rfl, by rw [rep_atom]; exact ⟨_, rfl, hpv⟩, hLx.1, M, hl16, fun u2 h2 vV2 c2 s2 M2 b2 _ hc2 => ?_⟩))
      rw [rep_atom] at hc2
      obtain ⟨cv, rfl, hcv⟩ := hc2
      obtain ⟨ca, cc, rfl, -, -⟩ := hcv.sl
      have hpb2 : pb < h2.size := Nat.lt_of_lt_of_le hpb s2.ge.sz
      have l13' : Go.Ev.hv h2 pb (qo + i * 14 + 13) = .int .i64 x.2.2.2.2.2 := by rw [s2.ge.cl pb hpb _ (by omega)]; exact l13
      have hpz2 : qo + i * 14 + 14 ≤ hsz h2 pb := by rw [(s2.ge.hs pb hpb).1]; exact hpz
      have A2 := A.step s2 (fun hj => hj.2.elim (fun e => by omega) (fun hj => hVp _ hj rfl))
      refine ⟨by simp (disch := first | omega | (simp only [zz]; try omega; done)) only [↓reduceIte, go_sem, e1, e7, l13, l13'], ?_⟩
      have hzo : i * 14 + 14 ≤ hsz h2 po := by rw [A2.2.1, hol]; exact row_lt (s := 14) hlt
      have hfo : hfr h2 po = (0, 0) := A2.2.2.1
      simp (disch := first | omega | (simp only [zz]; try omega; done)) only [↓reduceIte, go_sem, e6, e7, hlt, hfo]
      have hrep : Rep.rep u2 h2 (lit1 (vA i) x) [.int .i64 1, str (atomM true li x.2.1).1, .slice ca (atomM true li x.2.1).2.1.length cc, .int .i64 (atomM true li x.2.1).2.2, .int .i64 0, .int .i64 0, .int .i64 0, str [], .int .i64 0, .int .i64 0, .int .i64 0, str [], .int .i64 0, .int .i64 x.2.2.2.2.2] := by
        rw [← hli]
        unfold lit1 litP
        rw [if_pos hk2, rep_literal]
        exact ⟨_, rfl, hcv⟩
      have hio : i < outs.length := by omega
      obtain ⟨A3, sw⟩ := A2.put hio hrep
      rw [sz_literal] at A3 sw
      refine ⟨Nat.zero_le _, i + 1, ?_, by omega⟩
      rw [hI]
      have s2' : Step (MkB bm vVi) u' h' u2 h2 := s2.mono fun _ _ hj => hj.2
      have st2 : Step (MkB bm vV) u h u2 h2 := st.trans s2' (fun j hj hm => hm.elim .inl fun hm => (hVi j hm).elim .inr fun h => by omega)
      have hV2 : ∀ j, OwnB vV2 j → OwnB vV j ∨ h.size ≤ j := fun j hj => (b2 j hj).elim (hVi j) (fun h => .inr (by omega))
      have hVp2 : ∀ j, OwnB vV2 j → j ≠ po := fun j hj => (b2 j hj).elim (hVp j) (fun h => by omega)
      refine ⟨by simp [upd, e0], by simp [upd, e1], by simp [upd, e5], by simp [upd, e6], by simp [upd], hlt, u2, vV2, _, _, st2.trans sw (fun j hj e => by have e : j = po := e; omega), M2.step sw (fun j hj e => by
        have e : j = po := e
        rcases hj with hj | hj
        · omega
        · exact hVp2 j hj e), hV2, hVp2, A3, by rw [List.length_set]; exact hol, by rw [hvx, ← hli, hW], by rw [← hW]; exact litV_len hl16 x, fun j y hy => ?_⟩
      rw [List.getElem?_set]
      by_cases e : i = j
      · subst e
        rw [hs] at hy
        cases hy
        rw [if_pos rfl, if_pos hio, if_pos (Nat.lt_succ_self _)]
      · rw [if_neg e, hO j y hy]
        by_cases q : j < i
        · rw [if_pos q, if_pos (by omega)]
        · rw [if_neg q, if_neg (by omega)]
    · have hW : litV li x = li := by unfold litV; rw [if_neg hk2]
      simp (disch := first | omega | (simp only [zz]; try omega; done)) only [↓reduceIte, go_sem, e7, eq_false hk2]
      refine ⟨i + 1, ?_, by omega⟩
      rw [hI]
      refine ⟨by simp [upd, e0], by simp [upd, e1], by simp [upd, e5], by simp [upd, e6], by simp [upd], hlt, u', vVi, li, outs, st, M, hVi, hVp, A, hol, by rw [hvx, ← hli, hW], hl16, fun j y hy => ?_⟩
      rw [hO j y hy]
      by_cases e : j = i
      · subst e
        rw [hs] at hy
        cases hy
        rw [if_neg (Nat.lt_irrefl _), if_pos (Nat.lt_succ_self _)]
        unfold lit1; rw [if_neg hk2]
      · by_cases q : j < i
        · rw [if_pos q, if_pos (by omega)]
        · rw [if_neg q, if_neg (by omega)]
  · obtain rfl : i = L.length := by omega
    simp (disch := first | omega | (simp only [zz]; try omega; done)) only [↓reduceIte, go_sem, klBody_L1, e5, e7]
    have hws : vA L.length = bodyV ls := by rw [hvA]; simp only [List.take_length]; rw [hL]; rfl
    rw [hws] at hli
    obtain ⟨J, hJ⟩ : ∃ J : Nat → Env → H → Prop, J = fun i σ h' => σ 0 = .pointer (some ⟨bm, 0, none⟩) ∧ σ 1 = .slice la ls.length lc ∧ σ 5 = .int .i64 L.length ∧ σ 6 = .slice (some ⟨po, 0, none⟩) L.length L.length ∧ σ 8 = .int .i64 i ∧ i ≤ L.length ∧
      ∃ (u' : U) (outs : List Literal), Step (MkB bm vV) u h u' h' ∧ MkS k u' h' bm vVi li ∧ Arr u' h' po outs ∧ outs.length = L.length ∧ ∀ j x, L[j]? = some x → outs[j]? = some (if j < i then litM li (vA j) x else lit1 (vA j) x) := ⟨_, rfl⟩
    refine wpS_loop J (fun i => L.length - i) 0 (by
      rw [hJ]
      exact ⟨by simp [upd, e0], by simp [upd, e1], by simp [upd, e5], by simp [upd, e6], by simp [upd], Nat.zero_le _, u', outs, st, M, A, hol, fun j x hx => by
        rw [hO j x hx, if_pos (List.getElem?_eq_some_iff.1 hx).1, if_neg (Nat.not_lt_zero _)]⟩) ?_
    clear e0 e1 e5 e6 e7 st M A hol hO hal hz hI hi hlt
    clear u' outs h' σ
    intro i σ h' hy
    rw [hJ] at hy
    obtain ⟨e0, e1, e5, e6, e8, hi, u', outs, st, M, A, hol, hO⟩ := hy
    have hal := A.1
    have hz := st.ge.sz
    have hop : ∀ (u2 : U) (h2 : H), Step S0 u' h' u2 h2 → MkS k u2 h2 bm vVi li ∧ Arr u2 h2 po outs := fun u2 h2 s2 => ⟨M.step s2 (fun _ _ h => h), A.step s2 (fun h => h)⟩
    have next : ∀ (σ' : Env) (u2 : U) (h2 : H) (x : Literal) (cs : List Value), L[i]? = some x → σ' 0 = σ 0 → σ' 1 = σ 1 → σ' 5 = σ 5 → σ' 6 = σ 6 → σ' 8 = .int .i64 ((i : Int) + 1) → Step S0 u' h' u2 h2 → Rep.rep u2 h2 (litM li (vA i) x) cs → ∃ y, J y σ' (hsets h2 po (i * 14) cs) ∧ L.length - y < L.length - i := fun σ' u2 h2 x cs hs g0 g1 g5 g6 g8 s2 hrep => by
      have hlt := (List.getElem?_eq_some_iff.1 hs).1
      obtain ⟨M2, A2⟩ := hop u2 h2 s2
      have hio : i < outs.length := by omega
      obtain ⟨A3, sw⟩ := A2.put hio hrep
      rw [sz_literal] at A3 sw
      refine ⟨i + 1, ?_, by omega⟩
      rw [hJ]
      refine ⟨by rw [g0, e0], by rw [g1, e1], by rw [g5, e5], by rw [g6, e6], g8, hlt, u2, _, (st.trans0 s2).trans sw (fun j hj e => by have e : j = po := e; omega), M2.step sw (fun j hj e => by
        have e : j = po := e
        rcases hj with hj | hj
        · omega
        · exact hVp j hj e), A3, by rw [List.length_set]; exact hol, fun j y hy => ?_⟩
      rw [List.getElem?_set]
      by_cases e : i = j
      · subst e
        rw [hs] at hy
        cases hy
        rw [if_pos rfl, if_pos hio, if_pos (Nat.lt_succ_self _)]
      · rw [if_neg e, hO j y hy]
        by_cases q : j < i
        · rw [if_pos q, if_pos (by omega)]
        · rw [if_neg q, if_neg (by omega)]
    by_cases hlt : i < L.length
    · obtain ⟨x, hs⟩ : ∃ x, L[i]? = some x := ⟨L[i], by simp [hlt]⟩
      have hsa := hsL i x hs
      have hil := (List.getElem?_eq_some_iff.1 hsa).1
      have hLx := hLB x (List.mem_of_getElem? hsa)
      obtain ⟨pb, qo, rfl, hpb, hpu, hpz, hpr⟩ := (hl.mono st.ge).row i x hsa
      rw [rep_literal] at hpr
      obtain ⟨pv, hpr, hpv⟩ := hpr
      obtain ⟨pva, pvc, rfl, r1, r2⟩ := hpv.sl
      simp only [Term.enc, sz_literal, hvs_14, List.cons_append, List.nil_append, List.cons.injEq, and_true] at hpr hpu hpz
      obtain ⟨l0, l1, l2, l3, l4, l5, l6, l7, l8, l9, l10, l11, l12, l13⟩ := hpr
      have keep : ∀ (u2 : U) (h2 : H), Step S0 u' h' u2 h2 → pb < h2.size ∧ qo + i * 14 + 14 ≤ hsz h2 pb ∧ ∀ m, m < 14 → Go.Ev.hv h2 pb (qo + i * 14 + m) = Go.Ev.hv h' pb (qo + i * 14 + m) := fun u2 h2 s2 =>
        ⟨Nat.lt_of_lt_of_le hpb s2.ge.sz, by rw [(s2.ge.hs pb hpb).1]; exact hpz, fun m hm => s2.ge.cl pb hpb _ (by omega)⟩
      simp (disch := first | omega | (simp only [zz]; try omega; done)) only [↓reduceIte, go_sem, klBody_L2, e1, e5, e8, hlt, hil, l0]
      refine effS_call (.inl ⟨rfl, x.1, 4, rfl, by decide, by decide, ⟨by simp (disch := first | omega | (simp only [zz]; try omega; done)) only [go_sem], ?_⟩⟩)
      by_cases h2' : x.1 % 4 = 2
      · simp (disch := first | omega | (simp only [zz]; try omega; done)) only [↓reduceIte, go_sem, e0, e1, e8, hil, eq_true h2', l1, l2, l3, l13]
        refine effS_call (.inr (.inl ⟨rfl, k, u', bm, vVi, li, x.2.1, [str x.2.1.1, .slice pva x.2.1.2.1.length pvc, .int .i64 x.2.1.2.2], false, rfl, by rw [rep_atom]; exact ⟨_, rfl, hpv⟩, hLx.1, M, hl16, fun u2 h2 vV2 c2 s2 M2 b2 _ hc2 => ?_⟩))
        rw [rep_atom] at hc2
        obtain ⟨cv, rfl, hcv⟩ := hc2
        obtain ⟨ca, cc, rfl, -, -⟩ := hcv.sl
        have s2' : Step S0 u' h' u2 h2 := s2.mono fun _ _ hj => by cases hj.1
        obtain ⟨hpb2, hpz2, hk2⟩ := keep u2 h2 s2'
        have l13' := hk2 13 (by omega)
        rw [l13] at l13'
        obtain ⟨-, A2⟩ := hop u2 h2 s2'
        refine ⟨by simp (disch := first | omega | (simp only [zz]; try omega; done)) only [↓reduceIte, go_sem, e1, e8, l13, l13'], ?_⟩
        have hzo : i * 14 + 14 ≤ hsz h2 po := by rw [A2.2.1, hol]; exact row_lt (s := 14) hlt
        have hfo : hfr h2 po = (0, 0) := A2.2.2.1
        simp (disch := first | omega | (simp only [zz]; try omega; done)) only [↓reduceIte, go_sem, e6, e8, hlt, hfo]
        refine ⟨Nat.zero_le _, next _ u2 h2 x _ hs (by simp [upd]) (by simp [upd]) (by simp [upd]) (by simp [upd]) (by simp [upd]) s2' ?_⟩
        unfold litM
        rw [if_neg (by omega), if_pos h2', rep_literal]
        exact ⟨_, rfl, hcv⟩
      · by_cases h3' : x.1 % 4 = 3
        · simp (disch := first | omega | (simp only [zz]; try omega; done)) only [↓reduceIte, go_sem, e1, e8, hil, eq_false h2', eq_true h3', l4, l5, l6, l7, l8, l9, l10, l11, l12, l13]
          refine effS_call (.inl ⟨rfl, x.2.2.1, 6, rfl, by decide, by decide, ⟨by simp (disch := first | omega | (simp only [zz]; try omega; done)) only [↓reduceIte, go_sem, e1, e8], ?_⟩⟩)
          have hm6 := Int.emod_nonneg x.2.2.1 (show (6 : Int) ≠ 0 by decide)
          have hm7 := Int.emod_lt_of_pos x.2.2.1 (show (0 : Int) < 6 by decide)
          simp (disch := first | omega | (simp only [zz]; try omega; done)) only [↓reduceIte, go_sem, e0]
          refine effS_call (.inr (.inr ⟨rfl, k, u', bm, vVi, li, x.2.2.2.1, rfl, hLx.2.1, M, fun u2 h2 s2 => ?_⟩))
          obtain ⟨hpb2, hpz2, hk2⟩ := keep u2 h2 s2
          have m9 := hk2 9 (by omega)
          have m10 := hk2 10 (by omega)
          have m11 := hk2 11 (by omega)
          have m12 := hk2 12 (by omega)
          have m13 := hk2 13 (by omega)
          rw [l9] at m9
          rw [l10] at m10
          rw [l11] at m11
          rw [l12] at m12
          rw [l13] at m13
          refine ⟨by simp (disch := first | omega | (simp only [zz]; try omega; done)) only [↓reduceIte, go_sem, e1, e8, l9, l10, l11, l12, l13, m9, m10, m11, m12, m13], ?_⟩
          obtain ⟨M2, A2⟩ := hop u2 h2 s2
          simp (disch := first | omega | (simp only [zz]; try omega; done)) only [↓reduceIte, go_sem, e0]
          refine effS_call (.inr (.inr ⟨rfl, k, u2, bm, vVi, li, x.2.2.2.2.1, rfl, hLx.2.2, M2, fun u3 h3 s3 => ?_⟩))
          have s23 := s2.trans0 s3
          obtain ⟨hpb3, hpz3, hk3⟩ := keep u3 h3 s23
          have n13 := hk3 13 (by omega)
          rw [l13] at n13
          refine ⟨by simp (disch := first | omega | (simp only [zz]; try omega; done)) only [↓reduceIte, go_sem, e1, e8, m13, n13], ?_⟩
          obtain ⟨M3, A3⟩ := hop u3 h3 s23
          have hzo : i * 14 + 14 ≤ hsz h3 po := by rw [A3.2.1, hol]; exact row_lt (s := 14) hlt
          have hfo : hfr h3 po = (0, 0) := A3.2.2.1
          simp only [Term.enc]
          simp (disch := first | omega | (simp only [zz]; try omega; done)) only [↓reduceIte, go_sem, e6, e8, hlt, hfo]
          refine ⟨Nat.zero_le _, next _ u3 h3 x _ hs (by simp [upd]) (by simp [upd]) (by simp [upd]) (by simp [upd]) (by simp [upd]) s23 ?_⟩
          unfold litM
          rw [if_neg (by omega), if_neg h2', rep_literal]
          exact ⟨_, rfl, .nil _ _⟩
        · have hm4 := Int.emod_nonneg x.1 (show (4 : Int) ≠ 0 by decide)
          have hm5 := Int.emod_lt_of_pos x.1 (show (0 : Int) < 4 by decide)
          simp (disch := first | omega | (simp only [zz]; try omega; done)) only [↓reduceIte, go_sem, e8, eq_false h2', eq_false h3']
          refine ⟨i + 1, ?_, by omega⟩
          rw [hJ]
          refine ⟨by simp [upd, e0], by simp [upd, e1], by simp [upd, e5], by simp [upd, e6], by simp [upd], hlt, u', outs, st, M, A, hol, fun j y hy => ?_⟩
          rw [hO j y hy]
          by_cases e : j = i
          · subst e
            rw [hs] at hy
            cases hy
            rw [if_neg (Nat.lt_irrefl _), if_pos (Nat.lt_succ_self _)]
            unfold lit1 litM; rw [if_pos (by omega), if_pos (by omega)]
          · by_cases q : j < i
            · rw [if_pos q, if_pos (by omega)]
            · rw [if_neg q, if_neg (by omega)]
    · obtain rfl : i = L.length := by omega
      simp (disch := first | omega | (simp only [zz]; try omega; done)) only [↓reduceIte, go_sem, klBody_L2, e5, e6, e8]
      have hout : outs = bodyM ls := by
        apply List.ext_getElem?
        intro j
        unfold bodyM
        rw [← hL, ← hli, bodyL_get]
        by_cases hj : j < L.length
        · obtain ⟨x, hx⟩ : ∃ x, L[j]? = some x := ⟨L[j], by simp [hj]⟩
          rw [hO j x hx, if_pos hj, hx, hvA]; rfl
        · rw [List.getElem?_eq_none (by omega), List.getElem?_eq_none (by omega)]; rfl
      obtain ⟨hsl, sd⟩ := A.done (by omega)
      rw [hol] at hsl sd
      rw [hout] at hsl
      exact hK _ h' vVi _ (st.trans sd (fun j hj e => by have e : j = po := e; omega)) (by rw [← hli]; exact M.step sd (fun j hj e => by
        have e : j = po := e
        rcases hj with hj | hj
        · omega
        · exact hVp j hj e)) hVi hsl
end Go.Proofs.Ytkobamedfbgjbaa
