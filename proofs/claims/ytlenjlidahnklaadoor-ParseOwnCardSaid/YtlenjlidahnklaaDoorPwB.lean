/- The reader of clauses, walked: body, clause. -/
import Derived.Test.YtlenjlidahnklaaDoorPwFs
namespace Go.Ev
open Go Rep Edict
theorem rep_lit {u : U} {h : H} {x : LitT} {cs : List Value} : rep u h x cs = (∃ v, cs = litE x v ∧ IsSl u h v x.2.1.2.1) := by
  apply propext
  obtain ⟨k, ⟨p, l, o⟩, op, ⟨l1, l2, l3, l4⟩, ⟨r1, r2, r3, r4⟩, of⟩ := x
  simp only [rep_prod, rep_str, rep_int, rep_list]
  constructor
  · rintro ⟨_, _, rfl, rfl, _, _, rfl, ⟨_, _, rfl, rfl, _, _, rfl, ⟨v, rfl, hv⟩, rfl⟩, _, _, rfl, rfl, _, _, rfl, ⟨_, _, rfl, rfl, _, _, rfl, rfl, _, _, rfl, rfl, rfl⟩, _, _, rfl, ⟨_, _, rfl, rfl, _, _, rfl, rfl, _, _, rfl, rfl, rfl⟩, rfl⟩
    exact ⟨v, rfl, hv⟩
  · rintro ⟨v, rfl, hv⟩
    exact ⟨_, _, rfl, rfl, _, _, rfl, ⟨_, _, rfl, rfl, _, _, rfl, ⟨v, rfl, hv⟩, rfl⟩, _, _, rfl, rfl, _, _, rfl, ⟨_, _, rfl, rfl, _, _, rfl, rfl, _, _, rfl, rfl, rfl⟩, _, _, rfl, ⟨_, _, rfl, rfl, _, _, rfl, rfl, _, _, rfl, rfl, rfl⟩, rfl⟩
theorem sz_lit : sz LitT = 14 := rfl
theorem rep_clause {u : U} {h : H} {x : ClauseT} {cs : List Value} : rep u h x cs = (∃ v w, cs = [str x.1.1, v, .int .i64 x.1.2.2, w] ∧ IsSl u h v x.1.2.1 ∧ IsSl u h w x.2) := by
  apply propext
  obtain ⟨⟨p, l, o⟩, b⟩ := x
  simp only [rep_prod, rep_str, rep_int, rep_list]
  constructor
  · rintro ⟨_, _, rfl, ⟨_, _, rfl, rfl, _, _, rfl, ⟨v, rfl, hv⟩, rfl⟩, w, rfl, hw⟩
    exact ⟨v, w, rfl, hv, hw⟩
  · rintro ⟨v, w, rfl, hv, hw⟩
    exact ⟨_, _, rfl, ⟨_, _, rfl, rfl, _, _, rfl, ⟨v, rfl, hv⟩, rfl⟩, w, rfl, hw⟩
theorem sz_clause : sz ClauseT = 4 := rfl
theorem rep_litG {u : U} {h : H} {x : LitG} {cs : List Value} : rep u h x cs = (∃ v, cs = litE (pL x) v ∧ rep u h x.2.1.2.1 [v]) := by
  apply propext
  obtain ⟨k, ⟨p, g, o⟩, op, ⟨l1, l2, l3, l4⟩, ⟨r1, r2, r3, r4⟩, of⟩ := x
  rw [rep_prod, ]
  simp only [rep_prod (α := AtomG), rep_prod (α := TermT), rep_prod (α := Int) (β := TermT × TermT × Int), rep_atomG, rep_term, rep_int]
  constructor
  · rintro ⟨_, _, rfl, rfl, _, _, rfl, ⟨v, rfl, hv⟩, _, _, rfl, rfl, _, _, rfl, rfl, _, _, rfl, rfl, rfl⟩
    exact ⟨v, rfl, hv⟩
  · rintro ⟨v, rfl, hv⟩
    exact ⟨_, _, rfl, rfl, _, _, rfl, ⟨v, rfl, hv⟩, _, _, rfl, rfl, _, _, rfl, rfl, _, _, rfl, rfl, rfl⟩
theorem sz_litG : sz LitG = 14 := rfl
theorem tags_li (x : LitG) : HasTags.tags x = HasTags.tags x.2.1.2.1 := by
  show [] ++ (HasTags.tags x.2.1 ++ ([] ++ (([] ++ ([] ++ ([] ++ []))) ++ (([] ++ ([] ++ ([] ++ []))) ++ [])))) = _
  rw [tags_at]; simp
theorem rep_clauseG {u : U} {h : H} {x : ClauseG} {cs : List Value} : rep u h x cs = (∃ v w, cs = [str x.1.1, v, .int .i64 x.1.2.2, w] ∧ rep u h x.1.2.1 [v] ∧ rep u h x.2 [w]) := by
  apply propext
  obtain ⟨a, b⟩ := x
  rw [rep_prod]
  simp only [rep_atomG]
  constructor
  · rintro ⟨_, c, rfl, ⟨v, rfl, hv⟩, hw⟩
    obtain ⟨w, rfl, hw'⟩ := hw
    exact ⟨v, w, rfl, hv, w, rfl, hw'⟩
  · rintro ⟨v, w, rfl, hv, hw⟩
    exact ⟨_, _, rfl, ⟨v, rfl, hv⟩, hw⟩
theorem sz_clauseG : sz ClauseG = 4 := rfl
theorem tags_cl (c : ClauseG) : HasTags.tags c = HasTags.tags c.1.2.1 ++ HasTags.tags c.2 := by show HasTags.tags c.1 ++ _ = _; rw [tags_at]
end Go.Ev
namespace Edict
theorem lit_begins {bad : Flt} {t : Tok} {l : List Tok} (h : begB (tK t) = false) : ∃ e, litD bad (t :: l) = .error e := by
  unfold begB at h
  rw [Bool.or_eq_false_iff] at h
  have h10 : tK t ≠ 10 := of_decide_eq_false h.1
  have h1 : tK t ≠ 1 := fun q => by have := h.2; rw [q] at this; cases this
  exact ⟨_, by rw [litD_test h10 (fun q => h1 q.1)]; exact testD_1 h.2⟩
theorem begB_on {k : Int} (h : begB k = true) : k = 10 ∨ isT k true = true := by
  unfold begB at h
  rw [Bool.or_eq_true] at h
  exact h.imp of_decide_eq_true id
theorem begB_off {k : Int} (h : begB k = false) : ¬ (k = 10 ∨ isT k true = true) := by
  unfold begB at h
  rw [Bool.or_eq_false_iff] at h
  rintro (q | q)
  · exact of_decide_eq_false h.1 q
  · rw [h.2] at q; cases q
/-- What stands behind a literal. -/
def litsD (bad : Flt) (acc : List LitT) : List Tok → PR (List LitT)
  | [] => .error bad
  | c :: r => if tK c = 7 then bodyD bad acc r else if tK c = 8 then .ok (acc, r) else .error (refuseD c)
theorem bodyD_on {bad : Flt} {acc : List LitT} {t : Tok} {l : List Tok} {x : LitT} {q : List Tok} (h : ¬ (16 ≤ acc.length ∧ (tK t = 10 ∨ isT (tK t) true = true))) (he : litD bad (t :: l) = .ok (x, q)) : bodyD bad acc (t :: l) = litsD bad (acc ++ [x]) q := by
  rw [bodyD_lit h he]
  cases q <;> rfl
theorem litsD_nil {bad : Flt} {acc : List LitT} : litsD bad acc [] = .error bad := rfl
theorem litsD_cons {bad : Flt} {acc : List LitT} {c : Tok} {r : List Tok} : litsD bad acc (c :: r) = if tK c = 7 then bodyD bad acc r else if tK c = 8 then .ok (acc, r) else .error (refuseD c) := rfl
/-- What stands behind a clause's head. -/
def restD (bad : Flt) (a : AtomT) : List Tok → PR ClauseT
  | [] => .error bad
  | c :: r => if tK c = 8 then .ok ((a, []), r) else if tK c = 9 then
        (match bodyD bad [] r with
        | .error e => .error e
        | .ok (b, p) => .ok ((a, b), p))
      else .error (refuseD c)
theorem clauseD_err {bad : Flt} {l : List Tok} {e : Flt} (h : atomD bad true l = .error e) : clauseD bad l = .error e := by unfold clauseD; rw [h]
theorem clauseD_ok {bad : Flt} {l q : List Tok} {a : AtomT} (h : atomD bad true l = .ok (a, q)) : clauseD bad l = restD bad a q := by unfold clauseD; rw [h]; cases q <;> rfl
theorem restD_8 {bad : Flt} {a : AtomT} {c : Tok} {r : List Tok} (h : tK c = 8) : restD bad a (c :: r) = .ok ((a, []), r) := by show (if tK c = 8 then _ else _) = _; rw [if_pos h]
theorem restD_9E {bad : Flt} {a : AtomT} {c : Tok} {r : List Tok} {e : Flt} (h : tK c = 9) (hb : bodyD bad [] r = .error e) : restD bad a (c :: r) = .error e := by show (if tK c = 8 then _ else if tK c = 9 then _ else _) = _; rw [if_neg (by rw [h]; decide), if_pos h, hb]
theorem restD_9O {bad : Flt} {a : AtomT} {c : Tok} {r q : List Tok} {b : List LitT} (h : tK c = 9) (hb : bodyD bad [] r = .ok (b, q)) : restD bad a (c :: r) = .ok ((a, b), q) := by show (if tK c = 8 then _ else if tK c = 9 then _ else _) = _; rw [if_neg (by rw [h]; decide), if_pos h, hb]
theorem restD_no {bad : Flt} {a : AtomT} {c : Tok} {r : List Tok} (h : tK c ≠ 8) (h' : tK c ≠ 9) : restD bad a (c :: r) = .error (refuseD c) := by show (if tK c = 8 then _ else if tK c = 9 then _ else _) = _; rw [if_neg h, if_neg h']
end Edict
namespace Go.Proofs.YtlenjlidahnklaaDoor
open Go Go.Ev Edict
def C_pBody (vs : List Value) (h : H) (K : Value → H → Prop) (KP : List PanicEntry → H → Prop) : Prop := ∃ (u : U) (rb : Nat) (sl : Value) (L : List Tok) (bad : Flt) (i : Nat), vs = [.pointer (some ⟨rb, 0, none⟩)] ∧ RdB u h rb sl L bad i ∧
  (∀ e, bodyD bad [] (L.drop i) = .error e → ∀ u' h', Step (fun b => b = rb) u h u' h' → KP (gu e) h') ∧
  (∀ (l : List LitG) q, bodyD bad [] (L.drop i) = .ok (l.map pL, q) → ∀ u' h' w i', Step (fun b => b = rb) u h u' h' → RdB u' h' rb sl L bad i' → L.drop i' = q → OwnG h.size u' h' w l → K w h')
def G_pBd : Ctr := fun f vs h K KP => (f = 27 ∧ C_pPeek vs h K KP) ∨ (f = 40 ∧ C_pBegins vs h K) ∨ (f = 28 ∧ C_pStop vs h KP) ∨ (f = 41 ∧ C_pLit vs h K KP) ∨ (f = 39 ∧ C_pRefuse vs h KP)
theorem G_pBd_ok : GOk Tryd.prog G_pBd := by
  rintro f vs h K KP (⟨rfl, hC⟩ | ⟨rfl, hC⟩ | ⟨rfl, hC⟩ | ⟨rfl, hC⟩ | ⟨rfl, hC⟩)
  · exact psPeek_ok hC
  · exact psBegins_ok hC
  · exact psStop_ok hC
  · exact psLit_ok hC
  · exact psRefuse_ok hC
theorem psBody_ok {vs : List Value} {h : H} {K : Value → H → Prop} {KP : List PanicEntry → H → Prop} (hC : C_pBody vs h K KP) : HCX Tryd.prog 31 vs h K KP := by
  obtain ⟨u, rb, sl, L, bad, i, rfl, hR, hKE, hKO⟩ := hC
  refine psBody_H G_pBd G_pBd_ok _ ?_
  have hrb : rb < h.size := hR.1.1
  have hLl := hR.2.2.2
  obtain ⟨R, hRR⟩ : ∃ R, bodyD bad [] (L.drop i) = R := ⟨_, rfl⟩
  rw [hRR] at hKE hKO
  simp (disch := first | omega | (simp only [e_ssz, e_psz, e_hszs, List.length_cons, List.length_nil]; try omega; done)) only [go_sem, psBody_S, psBody_E]
  obtain ⟨I, hI⟩ : ∃ I : Nat → Env → H → Prop, I = fun j σ h' => ∃ (u' : U) (w : Value) (acc : List LitG), σ 0 = .pointer (some ⟨rb, 0, none⟩) ∧ σ 3 = w ∧ Step (fun b => b = rb) u h u' h' ∧ RdB u' h' rb sl L bad j ∧ OwnG h.size u' h' w acc ∧ acc.length ≤ 16 ∧ bodyD bad (acc.map pL) (L.drop j) = R := ⟨_, rfl⟩
  refine wpS_loop I (fun j => L.length - j) i (by rw [hI]; exact ⟨u, _, [], by simp [upd], by simp [upd], Step.refl _ _ _, hR, .nil _ _ _, by simp, hRR⟩) ?_
  clear hRR
  intro j σ h' hy
  rw [hI] at hy
  obtain ⟨u', w, acc, e0, e3, st, hRj, ow, hacc, hA⟩ := hy
  obtain ⟨wa, wc, rfl, m1, m2⟩ := ow.sl
  obtain ⟨ap, hap⟩ : ∃ ap, ap = acc.map pL := ⟨_, rfl⟩
  have hapl : ap.length = acc.length := by rw [hap, List.length_map]
  rw [← hap] at hA
  have hz := st.ge.sz
  have hwr : ∀ b, OwnB (.slice wa acc.length wc) b → b ≠ rb := fun b q => by have := ow.ge q; omega
  by_cases h16 : 16 ≤ acc.length
  · simp (disch := first | omega | (simp only [e_ssz, e_psz, e_hszs, List.length_cons, List.length_nil]; try omega; done)) only [↓reduceIte, go_sem, psBody_L1, e0, e3, eq_true (show (16 : Int) ≤ (acc.length : Nat) by omega)]
    refine effS_call (.inl ⟨rfl, u', rb, sl, L, bad, j, rfl, hRj, fun u2 h2 s2 => ⟨fun hd => ?_, fun t r hd => ⟨by simp (disch := first | omega | (simp only [e_ssz, e_psz, e_hszs, List.length_cons, List.length_nil]; try omega; done)) only [go_sem], ?_⟩⟩⟩)
    · rw [hd, bodyD_nil] at hA
      exact hKE _ hA.symm _ _ (st.trans0 s2)
    have hR2 := hRj.step0 s2
    have st2 := st.trans0 s2
    rw [hd] at hA
    simp only [tokE]
    simp (disch := first | omega | (simp only [e_ssz, e_psz, e_hszs, List.length_cons, List.length_nil]; try omega; done)) only [↓reduceIte, go_sem, e3, eq_true (show (16 : Int) ≤ (acc.length : Nat) by omega)]
    refine effS_call (.inr (.inl ⟨rfl, t.1, rfl, ⟨by simp (disch := first | omega | (simp only [e_ssz, e_psz, e_hszs, List.length_cons, List.length_nil]; try omega; done)) only [go_sem], ?_⟩⟩))
    cases hb : begB t.1 with
    | true =>
      rw [bodyD_full ⟨by omega, begB_on hb⟩] at hA
      simp (disch := first | omega | (simp only [e_ssz, e_psz, e_hszs, List.length_cons, List.length_nil]; try omega; done)) only [↓reduceIte, go_sem, e0, e3, eq_true (show (16 : Int) ≤ (acc.length : Nat) by omega)]
      exact effS_call (.inr (.inr (.inl ⟨rfl, u2, rb, sl, L, bad, j, 23, rfl, hR2, fun u5 h5 s5 => ⟨fun q => (hd_no hd q).elim, fun t' r' hd' => (by obtain ⟨rfl, rfl⟩ := hd_eq hd hd'; exact hKE _ hA.symm _ _ (st2.trans0 s5))⟩⟩)))
    | false =>
      obtain ⟨e, he⟩ := lit_begins (bad := bad) (l := r) (show begB (tK t) = false from hb)
      rw [bodyD_err (fun q => begB_off hb q.2) he] at hA
      simp (disch := first | omega | (simp only [e_ssz, e_psz, e_hszs, List.length_cons, List.length_nil]; try omega; done)) only [↓reduceIte, go_sem, e0, e3, eq_true (show (16 : Int) ≤ (acc.length : Nat) by omega)]
      refine effS_call (.inr (.inr (.inr (.inl ⟨rfl, u2, rb, sl, L, bad, j, rfl, hR2, fun e' he' u5 h5 s5 => ?_, fun x q hx => ?_⟩))))
      · rw [hd, he] at he'
        cases he'
        exact hKE _ hA.symm _ _ (st2.trans s5 (fun _ _ q => q))
      · rw [hd, he] at hx
        cases hx
  · have hnf : ∀ k : Int, ¬ (16 ≤ ap.length ∧ (k = 10 ∨ isT k true = true)) := fun k q => h16 (by have := q.1; omega)
    simp (disch := first | omega | (simp only [e_ssz, e_psz, e_hszs, List.length_cons, List.length_nil]; try omega; done)) only [↓reduceIte, go_sem, psBody_L1, e0, e3, eq_false (show ¬ (16 : Int) ≤ (acc.length : Nat) by omega)]
    refine effS_call (.inr (.inr (.inr (.inl ⟨rfl, u', rb, sl, L, bad, j, rfl, hRj, fun e he u2 h2 s2 => ?_, fun x q hx u2 h2 w2 i2 s2 hR2 hd2 iw2 => ⟨by simp (disch := first | omega | (simp only [e_ssz, e_psz, e_hszs, List.length_cons, List.length_nil]; try omega; done)) only [go_sem], ?_⟩⟩))))
    · refine hKE e ?_ _ _ (st.trans s2 (fun _ _ q => q))
      rw [← hA]
      cases hd : L.drop j with
      | nil => rw [hd] at he; cases he; rw [bodyD_nil]
      | cons t r => rw [hd] at he; exact bodyD_err (hnf _) he
    cases hd : L.drop j with
    | nil => rw [hd] at hx; cases hx
    | cons t r =>
    rw [hd] at hx hA
    rw [bodyD_on (hnf _) hx] at hA
    have hlen := litD_len hx
    have hle9 := litD_le hx
    clear hx
    have ow2 := ow.step s2 (fun b q q' => hwr b q q')
    have st2 := st.trans s2 (fun _ _ q => q)
    have hz2 := s2.ge.sz
    obtain ⟨ya, yc, rfl, k1, k2⟩ := iw2.sl
    obtain ⟨ga, hga, rga, tga⟩ := (iw2.toG tags_term (by omega)).box
    obtain ⟨g, hg⟩ : ∃ g : LitG, g = (x.1, (x.2.1.1, ga, x.2.1.2.2), x.2.2.1, x.2.2.2.1, x.2.2.2.2.1, x.2.2.2.2.2) := ⟨_, rfl⟩
    have hpg : pL g = x := by rw [hg]; unfold pL pA; simp only; rw [hga]
    have hrep : Rep.rep u2 h2 g (litE x (.slice ya x.2.1.2.1.length yc)) := by rw [rep_litG, hpg]; exact ⟨_, rfl, by rw [hg]; exact rga⟩
    have htg : Tg h'.size h2.size (HasTags.tags g) := by rw [tags_li, hg]; exact tga
    simp only [litE] at hrep ⊢
    simp (disch := first | omega | (simp only [e_ssz, e_psz, e_hszs, List.length_cons, List.length_nil]; try omega; done)) only [↓reduceIte, go_sem, e3]
    refine effS_app1g (by simp only []) ow2 (x := g) ow.tg htg (by omega) (by omega) hrep rfl rfl (by omega) (by omega) fun a5 n5 c5 u5 h5 o5 s5 hO5 => ⟨by simp (disch := first | omega | (simp only [e_ssz, e_psz, e_hszs, List.length_cons, List.length_nil]; try omega; done)) only [go_sem], ?_⟩
    obtain ⟨_, _, hme, m51, m52⟩ := o5.sl
    simp only [Value.slice.injEq] at hme
    obtain ⟨rfl, rfl, rfl⟩ := hme
    obtain ⟨ac2, hac2⟩ : ∃ ac2, ac2 = acc ++ [g] := ⟨_, rfl⟩
    rw [show ap ++ [x] = (acc ++ [g]).map pL by rw [List.map_append, ← hap, List.map_cons, hpg]; rfl] at hA
    have hl2 : ac2.length = acc.length + 1 := by rw [hac2]; simp
    rw [← hac2] at o5 hO5 m51 hA ⊢
    have hR5 := hR2.step s5 (fun q => hwr _ q rfl)
    have st5 := st2.trans s5 (fun b hb q => by have := ow2.ge q; omega)
    have hn5 : ∀ b, OwnB (.slice a5 ac2.length c5) b → b ≠ rb := fun b q => by have := o5.ge q; omega
    simp (disch := first | omega | (simp only [e_ssz, e_psz, e_hszs, List.length_cons, List.length_nil]; try omega; done)) only [↓reduceIte, go_sem, e0]
    refine effS_call (.inl ⟨rfl, u5, rb, sl, L, bad, i2, rfl, hR5, fun u6 h6 s6 => ⟨fun hd' => ?_, fun c r' hd' => ⟨by simp (disch := first | omega | (simp only [e_ssz, e_psz, e_hszs, List.length_cons, List.length_nil]; try omega; done)) only [go_sem], ?_⟩⟩⟩)
    · rw [hd2] at hd'
      subst hd'
      rw [litsD_nil] at hA
      exact hKE _ hA.symm _ _ (st5.trans0 s6)
    have hd2' := hd'
    rw [hd2] at hd'
    subst hd'
    rw [litsD_cons] at hA
    obtain ⟨hlt2, -, hd3⟩ := drop_cons hd2'
    have hlt8 : j < i2 + 1 := by
      have e1 : (L.drop i2).length = r'.length + 1 := by rw [hd2']; rfl
      have e2 : (L.drop j).length = r.length + 1 := by rw [hd]; rfl
      rw [List.length_drop] at e1 e2
      simp only [List.length_cons] at hlen
      omega
    have hR6 := hR5.step0 s6
    have o6 := o5.step0 s6
    have st6 := st5.trans0 s6
    have hRB6 := hR6.1
    have hRb6 := hRB6.1
    obtain ⟨h7, hh7, s7, hR7⟩ := hR6.adv hlt2
    have o7 := o6.step s7 (fun b q q' => hn5 b q q')
    have st7 : Step (fun b => b = rb) u h u6 h7 := st6.trans s7 (fun b _ q => q)
    simp only [tokE]
    by_cases h7' : c.1 = 7
    · rw [if_pos (show tK c = 7 from h7')] at hA
      simp (disch := first | omega | (simp only [e_ssz, e_psz, e_hszs, List.length_cons, List.length_nil]; try omega; done)) only [↓reduceIte, go_sem, eq_true h7', e0, hRB6.at, hRB6.2.1, hRB6.2.2.1, ← hh7]
      refine ⟨i2 + 1, ?_, by omega⟩
      rw [hI]
      refine ⟨u6, _, ac2, ?_, ?_, st7, hR7, o7, by omega, by rw [hd3]; exact hA⟩ <;> simp [upd, e0]
    rw [if_neg (show ¬ tK c = 7 from h7')] at hA
    by_cases h8' : c.1 = 8
    · rw [if_pos (show tK c = 8 from h8')] at hA
      simp (disch := first | omega | (simp only [e_ssz, e_psz, e_hszs, List.length_cons, List.length_nil]; try omega; done)) only [↓reduceIte, go_sem, eq_false h7', eq_true h8', e0, hRB6.at, hRB6.2.1, hRB6.2.2.1, ← hh7]
      exact hKO _ _ hA.symm _ _ _ _ st7 hR7 hd3 o7
    · rw [if_neg (show ¬ tK c = 8 from h8')] at hA
      simp (disch := first | omega | (simp only [e_ssz, e_psz, e_hszs, List.length_cons, List.length_nil]; try omega; done)) only [↓reduceIte, go_sem, eq_false h7', eq_false h8', e0]
      exact effS_call (.inr (.inr (.inr (.inr ⟨rfl, u6, rb, sl, L, bad, i2, rfl, hR6, fun u8 h8 s8 => ⟨fun q => (hd_no hd2' q).elim, fun t' r' hd' => (by obtain ⟨rfl, rfl⟩ := hd_eq hd2' hd'; exact hKE _ hA.symm _ _ (st6.trans0 s8))⟩⟩))))
def C_pClause (vs : List Value) (h : H) (K : Value → H → Prop) (KP : List PanicEntry → H → Prop) : Prop := ∃ (u : U) (rb : Nat) (sl : Value) (L : List Tok) (bad : Flt) (i : Nat), vs = [.pointer (some ⟨rb, 0, none⟩)] ∧ RdB u h rb sl L bad i ∧
  (∀ e, clauseD bad (L.drop i) = .error e → ∀ u' h', Step (fun b => b = rb) u h u' h' → KP (gu e) h') ∧
  (∀ (x : ClauseG) q, clauseD bad (L.drop i) = .ok (pC x, q) → ∀ u' h' v w i', Step (fun b => b = rb) u h u' h' → RdB u' h' rb sl L bad i' → L.drop i' = q → Rep.rep u' h' x.1.2.1 [v] → Rep.rep u' h' x.2 [w] → Tg h.size h'.size (HasTags.tags x) → K (.agg #[str x.1.1, v, .int .i64 x.1.2.2, w]) h')
def G_pCl : Ctr := fun f vs h K KP => (f = 27 ∧ C_pPeek vs h K KP) ∨ (f = 34 ∧ C_pAtom vs h K KP) ∨ (f = 31 ∧ C_pBody vs h K KP) ∨ (f = 39 ∧ C_pRefuse vs h KP)
theorem G_pCl_ok : GOk Tryd.prog G_pCl := by
  rintro f vs h K KP (⟨rfl, hC⟩ | ⟨rfl, hC⟩ | ⟨rfl, hC⟩ | ⟨rfl, hC⟩)
  · exact psPeek_ok hC
  · exact psAtom_ok hC
  · exact psBody_ok hC
  · exact psRefuse_ok hC
theorem psClause_ok {vs : List Value} {h : H} {K : Value → H → Prop} {KP : List PanicEntry → H → Prop} (hC : C_pClause vs h K KP) : HCX Tryd.prog 29 vs h K KP := by
  obtain ⟨u, rb, sl, L, bad, i, rfl, hR, hKE, hKO⟩ := hC
  refine psClause_H G_pCl G_pCl_ok _ ?_
  have s1 := Step.push0 S0 u h #[str [], .slice none 0 0, .int .i64 0, .slice none 0 0] 62
  have B1 := Blk.new (u := u) (h := h) [str [], .slice none 0 0, .int .i64 0, .slice none 0 0] 62
  obtain ⟨h1, hh1⟩ : ∃ h1, h1 = h.push (.cells #[str [], .slice none 0 0, .int .i64 0, .slice none 0 0] 62) := ⟨_, rfl⟩
  obtain ⟨u1, hu1⟩ : ∃ u1, u1 = ub u h.size 0 := ⟨_, rfl⟩
  have B1' : Blk u1 h1 h.size [str [], .slice none 0 0, .int .i64 0, .slice none 0 0] := by rw [hu1, hh1]; exact B1
  rw [← hh1, ← hu1] at s1
  clear B1
  have hR1 := hR.step0 s1
  have hrb : rb < h.size := hR.1.1
  have hLl := hR.2.2.2
  have hne1 : h.size ≠ rb := by omega
  have st1 : Step (fun b => b = rb) u h u1 h1 := s1.mono (fun _ _ q => q.elim)
  simp (disch := first | omega | (simp only [e_ssz, e_psz, e_hszs, List.length_cons, List.length_nil]; try omega; done)) only [↓reduceIte, go_sem, psClause_S, psClause_E, ← hh1]
  refine effS_call (.inr (.inl ⟨rfl, u1, rb, sl, L, bad, i, true, rfl, hR1, fun e he u2 h2 s2 => ?_, fun a q ha u2 h2 w2 i2 s2 hR2 hd2 ow2 => ⟨by simp (disch := first | omega | (simp only [e_ssz, e_psz, e_hszs, List.length_cons, List.length_nil]; try omega; done)) only [go_sem], ?_⟩⟩))
  · exact hKE _ (clauseD_err he) _ _ (st1.trans s2 (fun _ _ q => q))
  rw [clauseD_ok ha] at hKE hKO
  have ha0 := ha
  obtain ⟨ga, hga, iw2, tga⟩ := (ow2.toG tags_term (by have := atomD_le ha; omega)).box
  have hpa : pA (a.1, ga, a.2.2) = a := by unfold pA; rw [hga]
  obtain ⟨wa, wc, rfl, m1, m2⟩ := ow2.sl
  have B12 := B1'.step s2 hne1
  have hz2 := s2.ge.sz
  have hz1 := B1'.1
  obtain ⟨h3, h4, u4, hh3, hh4, B3, B4, s4, hz4⟩ := boxed u2 h2 [str [], .slice none 0 0, .int .i64 0, .slice none 0 0] [str a.1, .slice wa a.2.1.length wc, .int .i64 a.2.2, .slice none 0 0] 62 rfl
  have B14 := B12.step0 s4
  have hR4 := hR2.step0 s4
  have iw4 := Rep.mono s4.ge iw2
  have st4 := (st1.trans s2 (fun _ _ q => q)).trans0 s4
  have B31 := B3.1
  have B41 := B4.1
  have hne2 : h2.size ≠ rb := by omega
  simp (disch := first | omega | (simp only [e_ssz, e_psz, e_hszs, List.length_cons, List.length_nil]; try omega; done)) only [↓reduceIte, go_sem, ← hh3, ← hh4, B3.2.1, B3.2.2.1]
  refine effS_call (.inl ⟨rfl, u4, rb, sl, L, bad, i2, rfl, hR4, fun u5 h5 s5 => ⟨fun hd => ?_, fun c r hd => ⟨by simp (disch := first | omega | (simp only [e_ssz, e_psz, e_hszs, List.length_cons, List.length_nil]; try omega; done)) only [go_sem], ?_⟩⟩⟩)
  · rw [hd2] at hd
    subst hd
    exact hKE _ rfl _ _ (st4.trans0 s5)
  have hd' := hd
  rw [hd2] at hd
  subst hd
  obtain ⟨hlt, -, hd3⟩ := drop_cons hd'
  have hR5 := hR4.step0 s5
  have B15 := B14.step0 s5
  have B45 := B4.step0 s5
  have iw5 := Rep.mono s5.ge iw4
  have st5 := st4.trans0 s5
  have hRB5 := hR5.1
  have hRb5 := hRB5.1
  obtain ⟨h6, hh6, s6, hR6⟩ := hR5.adv hlt
  have B16 := B15.step s6 hne1
  have B46 := B45.step s6 hne2
  have iw6 := Rep.mono s6.ge iw5
  have st6 : Step (fun b => b = rb) u h u5 h6 := st5.trans s6 (fun _ _ q => q)
  have B161 := B16.1
  have B461 := B46.1
  simp only [tokE]
  by_cases h8 : c.1 = 8
  · have w := B16.sets (l := [str a.1, .slice wa a.2.1.length wc, .int .i64 a.2.2, .slice none 0 0]) rfl
    have s7 := st6.setsR (b := h.size) (o := 0) (l := [str a.1, .slice wa a.2.1.length wc, .int .i64 a.2.2, .slice none 0 0]) (.inl (Nat.le_refl _)) (by rw [B16.2.2.2.1]; exact Nat.zero_le _) (by rw [B16.2.1]; exact Nat.le_refl _)
    have s67 := Step.sets (S := fun b => b = h.size) u5 h6 (b := h.size) (o := 0) [str a.1, .slice wa a.2.1.length wc, .int .i64 a.2.2, .slice none 0 0] rfl (by rw [B16.2.2.2.1]; exact Nat.zero_le _) (by rw [B16.2.1]; exact Nat.le_refl _)
    have hz6 := st6.ge.sz
    have z24 := s4.ge.sz
    have z45 := s5.ge.sz
    have z56 := s6.ge.sz
    have hK' := hKO ((a.1, ga, a.2.2), ⟨[], none⟩) _ (by rw [restD_8 (show tK c = 8 from h8)]; unfold pC; rw [hpa]; rfl) _ _ _ (.slice none 0 0) _ s7 (hR6.step s67 (fun q => hne1 q.symm)) hd3 (Rep.mono s67.ge iw6) ⟨_, rfl, .nil _ _, ⟨rfl, rfl⟩, Nat.zero_le _⟩ (by rw [tags_cl]; exact (tga.mono (by omega) (by have := s67.ge.sz; omega)).app (Tg.nil _ _) (by have := s67.ge.sz; omega) (Nat.le_refl _))
    simp (disch := first | omega | (simp only [e_ssz, e_psz, e_hszs, List.length_cons, List.length_nil]; try omega; done)) only [↓reduceIte, go_sem, eq_true h8, hRB5.at, hRB5.2.1, hRB5.2.2.1, ← hh6, B46.at, B46.2.1, B16.2.1, B16.2.2.1, w.at, w.2.1]
    exact hK'
  by_cases h9 : c.1 = 9
  · simp (disch := first | omega | (simp only [e_ssz, e_psz, e_hszs, List.length_cons, List.length_nil]; try omega; done)) only [↓reduceIte, go_sem, eq_false h8, eq_true h9, hRB5.at, hRB5.2.1, hRB5.2.2.1, ← hh6]
    refine effS_call (.inr (.inr (.inl ⟨rfl, u5, rb, sl, L, bad, i2 + 1, rfl, hR6, fun e he u7 h7 s7 => ?_, fun b q hb u7 h7 w7 i7 s7 hR7 hd7 ow7 => ⟨by simp (disch := first | omega | (simp only [e_ssz, e_psz, e_hszs, List.length_cons, List.length_nil]; try omega; done)) only [go_sem], ?_⟩⟩)))
    · rw [hd3] at he
      exact hKE _ (restD_9E h9 he) _ _ (st6.trans s7 (fun _ _ q => q))
    rw [hd3] at hb
    have B17 := B16.step s7 hne1
    have B47 := B46.step s7 hne2
    have iw7 := Rep.mono s7.ge iw6
    obtain ⟨gb, hgb, ib7, tgb⟩ := ow7.box
    have st7 := st6.trans s7 (fun _ _ q => q)
    obtain ⟨ba, bc, rfl, n1, n2⟩ := ow7.sl
    have B471 := B47.1
    have B48 := B47.set (i := 3) (v := .slice ba b.length bc) (by simp)
    have s8 := Step.set (S := fun b => b = h2.size) u7 h7 (b := h2.size) (o := 3) (.slice ba b.length bc) rfl (by rw [B47.2.2.2.1]; exact Nat.zero_le _)
    obtain ⟨h8', hh8⟩ : ∃ h8', h8' = hset h7 h2.size 3 (.slice ba b.length bc) := ⟨_, rfl⟩
    rw [← hh8] at B48 s8
    simp only [List.set_cons_succ, List.set_cons_zero] at B48
    have hR8 := hR7.step s8 (fun q => hne2 q.symm)
    have B18 := B17.step s8 (by omega)
    have st8 := st7.trans s8 (fun b hb q => by omega)
    have B481 := B48.1
    have B181 := B18.1
    have w := B18.sets (l := [str a.1, .slice wa a.2.1.length wc, .int .i64 a.2.2, .slice ba b.length bc]) rfl
    have s9 := st8.setsR (b := h.size) (o := 0) (l := [str a.1, .slice wa a.2.1.length wc, .int .i64 a.2.2, .slice ba b.length bc]) (.inl (Nat.le_refl _)) (by rw [B18.2.2.2.1]; exact Nat.zero_le _) (by rw [B18.2.1]; exact Nat.le_refl _)
    have s89 := Step.sets (S := fun b => b = h.size) u7 h8' (b := h.size) (o := 0) [str a.1, .slice wa a.2.1.length wc, .int .i64 a.2.2, .slice ba b.length bc] rfl (by rw [B18.2.2.2.1]; exact Nat.zero_le _) (by rw [B18.2.1]; exact Nat.le_refl _)
    have z24 := s4.ge.sz
    have z45 := s5.ge.sz
    have z56 := s6.ge.sz
    have z67 := s7.ge.sz
    have z78 := s8.ge.sz
    have z89 := s89.ge.sz
    have hK' := hKO ((a.1, ga, a.2.2), gb) _ (by rw [restD_9O (show tK c = 9 from h9) hb]; unfold pC; rw [hpa, hgb]) _ _ _ _ _ s9 (hR8.step s89 (fun q => hne1 q.symm)) hd7 (Rep.mono s89.ge (Rep.mono s8.ge iw7)) (Rep.mono s89.ge (Rep.mono s8.ge ib7)) (by rw [tags_cl]; exact (tga.mono (by omega) (Nat.le_refl _)).app (tgb.mono (lo' := h2.size) (hi' := (hsets h8' h.size 0 [str a.1, .slice wa a.2.1.length wc, .int .i64 a.2.2, .slice ba b.length bc]).size) (by omega) (by omega)) (by omega) (by omega))
    simp (disch := first | omega | (simp only [e_ssz, e_psz, e_hszs, List.length_cons, List.length_nil]; try omega; done)) only [↓reduceIte, go_sem, B47.2.1, B47.2.2.1, ← hh8, B48.at, B48.2.1, B18.2.1, B18.2.2.1, w.at, w.2.1]
    exact hK'
  · simp (disch := first | omega | (simp only [e_ssz, e_psz, e_hszs, List.length_cons, List.length_nil]; try omega; done)) only [↓reduceIte, go_sem, eq_false h8, eq_false h9]
    exact effS_call (.inr (.inr (.inr ⟨rfl, u5, rb, sl, L, bad, i2, rfl, hR5, fun u8 hx8 s8 => ⟨fun q => (hd_no hd' q).elim, fun t' r' hd'' => (by obtain ⟨rfl, rfl⟩ := hd_eq hd' hd''; exact hKE _ (restD_no h8 h9) _ _ (st5.trans0 s8))⟩⟩)))
end Go.Proofs.YtlenjlidahnklaaDoor
