/- Constants as parts of what is printed; between. -/
import Derived.Test.YteiopegaiohglaaDoorPgB
namespace Edict
def encK (c : Const) : List Go.Value := [.int .i64 c.1, .int .i64 c.2.1, Go.Ev.str c.2.2]
end Edict
namespace Go.Ev
open Go Edict
/-- A constant as a part of what is printed. -/
@[instance_reducible] def repPart : Rep Const where
  sz := 1
  rep _ _ t cs := cs = [.iface 82 (.agg (encK t).toArray)]
  wf _ := True
  bulk _ := 1
  szp := Nat.one_pos
  len h := by subst h; rfl
  ok h := by subst h; rfl
  mono _ h := h
  pos _ := Nat.le_refl _
end Go.Ev
namespace Go.Proofs.YteiopegaiohglaaDoor
open Go Go.Ev Edict
abbrev OwnP (k : Nat) (u : U) (h : H) (v : Value) (l : List Const) : Prop := @Own Const repPart k u h v l
abbrev IsSlP (u : U) (h : H) (v : Value) (l : List Const) : Prop := @IsSl Const repPart u h v l
def C_factF (vs : List Value) (h : H) (K : Value → H → Prop) : Prop := ∃ (u : U) (t : Const), vs = [.agg (encK t).toArray] ∧ ∀ u' h', Step S0 u h u' h' → K (.iface 82 (.agg (encK t).toArray)) h'
theorem prFactF_ok {vs : List Value} {h : H} {K : Value → H → Prop} {KP : List PanicEntry → H → Prop} (hC : C_factF vs h K) : HCX Tryd.prog 33 vs h K KP := by
  obtain ⟨u, t, rfl, hK⟩ := hC
  refine prFactF_H (fun _ _ _ _ _ => False) (fun _ _ _ _ _ h => h.elim) _ ?_
  simp (disch := first | omega | (simp only [e_ssz, e_psz, e_hszs, List.length_cons, List.length_nil]; try omega; done)) only [↓reduceIte, go_sem, prFactF_S, prFactF_E, encK]
  exact hK _ _ (Step.push0 S0 u h _ _)
def C_parts (vs : List Value) (h : H) (K : Value → H → Prop) : Prop := ∃ (u : U) (v : Value) (l : List Const), vs = [v, .func (.func 33) #[] #[]] ∧ IsSl u h v l ∧ l.length ≤ 1048576 ∧ ∀ u' h' w, Step S0 u h u' h' → IsSlP u' h' w l → K w h'
def G_prPartsK : Ctr := fun f vs h K _ => f = 33 ∧ C_factF vs h K
theorem G_prPartsK_ok : GOk Tryd.prog G_prPartsK := by
  rintro f vs h K KP ⟨rfl, hC⟩; exact prFactF_ok hC
theorem prPartsK_ok {vs : List Value} {h : H} {K : Value → H → Prop} {KP : List PanicEntry → H → Prop} (hC : C_parts vs h K) : HCX Tryd.prog 32 vs h K KP := by
  obtain ⟨u, v, l, rfl, hl, hlen, hK⟩ := hC
  obtain ⟨la, lc, rfl, q1, q2⟩ := hl.sl
  have hm := mlen
  refine prPartsK_H G_prPartsK G_prPartsK_ok _ _ ?_
  simp (disch := first | omega | (simp only [e_ssz, e_psz, e_hszs, List.length_cons, List.length_nil]; try omega; done)) only [↓reduceIte, go_sem, prPartsK_S, prPartsK_E]
  have s0 : Step S0 u h (ub u h.size 0) (h.push (.cells (reps [Value.nilIface] l.length).toArray 81)) := Step.push0 S0 u h _ _
  have o0 : OwnP h.size (ub u h.size 0) (h.push (.cells (reps [Value.nilIface] l.length).toArray 81)) (.slice (some ⟨h.size, 0, none⟩) 0 l.length) [] :=
    .inr ⟨h.size, l.length, rfl, Nat.zero_le _, by omega, Nat.le_refl _, by simp, by rw [e_hszpe rfl]; show _ = l.length * 1; simp [reps], e_hfrpe rfl, ub_self, fun i x hx => by simp at hx⟩
  refine ⟨by omega, ?_⟩
  obtain ⟨I, hI⟩ : ∃ I : Nat → Env → H → Prop, I = fun i σ h' => σ 1 = .func (.func 33) #[] #[] ∧ σ 11 = .slice la l.length lc ∧ σ 12 = .int .i64 l.length ∧ σ 13 = .int .i64 i ∧ i ≤ l.length ∧
    ∃ u', Step S0 u h u' h' ∧ OwnP h.size u' h' (σ 5) (l.take i) := ⟨_, rfl⟩
  refine wpS_loop I (fun i => l.length - i) 0 (by
    rw [hI]
    exact ⟨by simp [upd], by simp [upd], by simp [upd], by simp [upd], Nat.zero_le _, _, s0, by simpa [upd] using o0⟩) ?_
  clear o0 s0
  intro i σ h' hy
  rw [hI] at hy
  obtain ⟨e1, e11, e12, e13, hi, u', st, ho⟩ := hy
  by_cases hlt : i < l.length
  · obtain ⟨t, ht⟩ : ∃ t, l[i]? = some t := ⟨l[i], by simp [hlt]⟩
    obtain ⟨tb, to, rfl, htb, htu, htz, htr⟩ := (hl.mono st.ge).row i t ht
    rw [rep_const] at htr
    simp only [sz_const, hvs_3, List.cons.injEq, and_true] at htr htu htz
    obtain ⟨t0, t1, t2⟩ := htr
    have sp := Step.push0 S0 u' h' #[.int .i64 t.1, .int .i64 t.2.1, str t.2.2] 46
    simp (disch := first | omega | (simp only [e_ssz, e_psz, e_hszs, List.length_cons, List.length_nil]; try omega; done)) only [↓reduceIte, go_sem, prPartsK_L1, e1, e11, e12, e13, hlt, t0, t1, t2]
    refine effS_callv ⟨rfl, ub u' h'.size 0, t, rfl, fun u2 h2 s2 => ⟨by simp (disch := first | omega | (simp only [e_ssz, e_psz, e_hszs, List.length_cons, List.length_nil]; try omega; done)) only [go_sem], ?_⟩⟩
    have st2 := sp.trans0 s2
    have ho2 := @Own.step0 Const repPart _ _ _ _ _ _ _ ho st2
    have hkl : h.size ≤ h2.size := (st.trans0 st2).ge.sz
    simp (disch := first | omega | (simp only [e_ssz, e_psz, e_hszs, List.length_cons, List.length_nil]; try omega; done)) only [↓reduceIte, go_sem]
    refine @effS_app1 Const repPart _ _ _ _ _ _ _ _ _ _ _ _ t _ _ _ _ _ _ ho2 rfl rfl rfl hkl (by rw [List.length_take]; omega) fun a' n' c' u3 h3 ho3 s3 => ⟨by simp (disch := first | omega | (simp only [e_ssz, e_psz, e_hszs, List.length_cons, List.length_nil]; try omega; done)) only [go_sem], ?_⟩
    simp (disch := first | omega | (simp only [e_ssz, e_psz, e_hszs, List.length_cons, List.length_nil]; try omega; done)) only [↓reduceIte, go_sem, e13]
    refine ⟨i + 1, ?_, by omega⟩
    rw [hI]
    refine ⟨by simp [upd, e1], by simp [upd, e11], by simp [upd, e12], by simp [upd], hlt, u3, (st.trans0 st2).trans s3 (fun j hj hB => by have := @Own.ge Const repPart _ _ _ _ _ ho2 _ hB; omega), ?_⟩
    rw [List.take_add_one, ht, Option.toList_some]
    simpa [upd] using ho3
  · obtain rfl : i = l.length := by omega
    rw [List.take_length] at ho
    simp (disch := first | omega | (simp only [e_ssz, e_psz, e_hszs, List.length_cons, List.length_nil]; try omega; done)) only [↓reduceIte, go_sem, prPartsK_L1, e12, e13]
    exact hK _ _ _ st (@Own.isSl Const repPart _ _ _ _ _ ho)
theorem effS_inv {G : Ctr} {tab : List (TypeId × FuncId)} {g : FuncId} {ty : TypeId} {v : Value} {d : Option Nat} {st : Stab} {r : List St} {K : Env → H → Prop} {KP : List PanicEntry → H → Prop} {vs : List Value} {σ : Env} {h : H}
    (hg : tabGet tab ty = some g) (hc : G g (v :: vs) h (fun v h' => stabP st σ h h' ∧ wpSts G r K KP (updo σ d v) h') KP) : effS G (.inv tab) d st r K KP (.iface ty v :: vs) σ h := by
  unfold effS fpre
  simp only [hg]
  exact hc
def C_between (vs : List Value) (h : H) (K : Value → H → Prop) : Prop := ∃ (b : Nat) (v : Value) (l : List Const) (u0 : U), vs = [.pointer (some ⟨b, 0, none⟩), str [44, 32], v] ∧ (∀ t ∈ l, OkC t) ∧ l.length ≤ 8 ∧
  ∃ (k : Nat) (u : U) (m0 : List UInt8), Bu k u h b m0 ∧ m0.length ≤ 90000000 ∧ PowG u h ∧ IsSlP u h v l ∧
  ∀ u' h', Step (BldB h b) u h u' h' → Bu k u' h' b (m0 ++ prA l l.length) → (∀ i, BldB h' b i → BldB h b i ∨ h.size ≤ i) → K (.tuple #[]) h'
def G_prBetween : Ctr := fun f vs h K _ => (f = 16 ∧ C_wstr vs h K) ∨ (f = 108 ∧ C_valueW vs h K)
theorem G_prBetween_ok : GOk Tryd.prog G_prBetween := by
  rintro f vs h K KP (⟨rfl, hC⟩ | ⟨rfl, hC⟩)
  · exact sbWriteString_ok hC
  · exact prValueW_ok hC
theorem bld_chain {b : Nat} {ua ub uc : U} {ha hb hc : H} (p1 : Step (BldB ha b) ua ha ub hb) (p2 : ∀ j, BldB hb b j → BldB ha b j ∨ ha.size ≤ j) (p3 : Step (BldB hb b) ub hb uc hc) (p4 : ∀ j, BldB hc b j → BldB hb b j ∨ hb.size ≤ j) :
    Step (BldB ha b) ua ha uc hc ∧ ∀ j, BldB hc b j → BldB ha b j ∨ ha.size ≤ j :=
  ⟨p1.trans p3 (fun j hj hB => (p2 j hB).elim id (fun h => by omega)), fun j hB => (p4 j hB).elim (p2 j) (fun h => .inr (Nat.le_trans p1.ge.sz h))⟩
theorem prBetween_ok {vs : List Value} {h : H} {K : Value → H → Prop} {KP : List PanicEntry → H → Prop} (hC : C_between vs h K) : HCX Tryd.prog 44 vs h K KP := by
  obtain ⟨b, v, l, -, rfl, hall, hlen, k, u, m0, B, hm0, hP, hl, hK⟩ := hC
  obtain ⟨la, lc, rfl, q1, q2⟩ := @IsSl.sl Const repPart _ _ _ _ hl
  refine prBetween_H G_prBetween G_prBetween_ok _ _ _ ?_
  simp (disch := first | omega | (simp only [e_ssz, e_psz, e_hszs, List.length_cons, List.length_nil]; try omega; done)) only [↓reduceIte, go_sem, prBetween_S, prBetween_E]
  obtain ⟨I, hI⟩ : ∃ I : Nat → Env → H → Prop, I = fun i σ h' => σ 0 = .pointer (some ⟨b, 0, none⟩) ∧ σ 1 = str [44, 32] ∧ σ 8 = .slice la l.length lc ∧ σ 9 = .int .i64 l.length ∧ σ 10 = .int .i64 i ∧ i ≤ l.length ∧
    ∃ (u' : U), Step (BldB h b) u h u' h' ∧ Bu k u' h' b (m0 ++ prA l i) ∧ ∀ j, BldB h' b j → BldB h b j ∨ h.size ≤ j := ⟨_, rfl⟩
  refine wpS_loop I (fun i => l.length - i) 0 (by
    rw [hI]
    exact ⟨by simp [upd], by simp [upd], by simp [upd], by simp [upd], by simp [upd], Nat.zero_le _, u, .refl _ _ _, by simpa [prA] using B, fun j hB => .inl hB⟩) ?_
  intro i σ h' hy
  rw [hI] at hy
  obtain ⟨e0, e1, e8, e9, e10, hi, u', st, B', hbb⟩ := hy
  have hm := (prA_ln hall i hi).1
  obtain ⟨m, hm0'⟩ : ∃ m, m = prA l i := ⟨_, rfl⟩
  rw [← hm0'] at B' hm
  by_cases hlt : i < l.length
  · obtain ⟨t, ht⟩ : ∃ t, l[i]? = some t := ⟨l[i], by simp [hlt]⟩
    have hct := hall t (List.mem_of_getElem? ht)
    obtain ⟨-, -, -, -, -, -, -, -, hcl, -⟩ := cst_ok hct
    have hgd : l.getD i noC = t := by rw [List.getD_eq_getElem?_getD, ht]; rfl
    have hnx : prA l (i + 1) = m ++ sepS i ++ cstS t := by rw [prA, hgd, hm0']
    obtain ⟨tb, to, rfl, htb, htu, htz, htr⟩ := @IsSl.row Const repPart _ _ _ _ _ _ (@IsSl.mono Const repPart _ _ _ _ _ _ st.ge hl) i t ht
    have hsz : @Rep.sz Const repPart = 1 := rfl
    rw [hsz] at htu htz htr
    have htr : Go.Ev.hv h' tb (to + i * 1) = .iface 82 (.agg (encK t).toArray) := by
      have := (show hvs h' tb (to + i * 1) 1 = [.iface 82 (.agg (encK t).toArray)] from htr)
      rw [hvs_1] at this
      simpa using this
    have fin : ∀ (σ' : Env) (u3 : U) (h3 : H) (x : List UInt8), σ' 0 = σ 0 → σ' 1 = σ 1 → σ' 8 = σ 8 → σ' 9 = σ 9 → σ' 10 = .int .i64 ((i : Int) + 1) → Step (BldB h' b) u' h' u3 h3 → Bu k u3 h3 b (m0 ++ m ++ x) → x = sepS i ++ cstS t →
        (∀ j, BldB h3 b j → BldB h' b j ∨ h'.size ≤ j) → ∃ y, I y σ' h3 ∧ l.length - y < l.length - i := fun σ' u3 h3 x g0 g1 g8 g9 g10 s3 B3 hx hb3 => by
      refine ⟨i + 1, ?_, by omega⟩
      rw [hI]
      obtain ⟨c1, c2⟩ := bld_chain st hbb s3 hb3
      exact ⟨by rw [g0, e0], by rw [g1, e1], by rw [g8, e8], by rw [g9, e9], g10, hlt, u3, c1, by rw [hnx, List.append_assoc m, ← hx, ← List.append_assoc]; exact B3, c2⟩
    by_cases h0 : i = 0
    · simp (disch := first | omega | (simp only [e_ssz, e_psz, e_hszs, List.length_cons, List.length_nil]; try omega; done)) only [↓reduceIte, go_sem, prBetween_L1, e0, e8, e9, e10, hlt, htr, eq_false (show ¬ (0 : Int) < i by omega)]
      refine effS_inv rfl (.inr ⟨rfl, b, t, rfl, hct, k, u', m0 ++ m, B', by rw [List.length_append]; omega, hP.mono st.ge, fun u3 h3 s3 B3 hb3 => ⟨by simp (disch := first | omega | (simp only [e_ssz, e_psz, e_hszs, List.length_cons, List.length_nil]; try omega; done)) only [go_sem], ?_⟩⟩)
      simp (disch := first | omega | (simp only [e_ssz, e_psz, e_hszs, List.length_cons, List.length_nil]; try omega; done)) only [↓reduceIte, go_sem, e10]
      exact fin _ u3 h3 _ (by simp [upd]) (by simp [upd]) (by simp [upd]) (by simp [upd]) (by simp [upd]) s3 B3 (by rw [h0]; rfl) hb3
    · simp (disch := first | omega | (simp only [e_ssz, e_psz, e_hszs, List.length_cons, List.length_nil]; try omega; done)) only [↓reduceIte, go_sem, prBetween_L1, e0, e1, e8, e9, e10, hlt, htr, eq_true (show (0 : Int) < i by omega)]
      refine effS_call (.inl ⟨rfl, _, [44, 32], rfl, k, u', b, m0 ++ m, rfl, B', by rw [List.length_append]; simp; omega, fun u2 h2 s2 B2 hb2 => ⟨by simp (disch := first | omega | (simp only [e_ssz, e_psz, e_hszs, List.length_cons, List.length_nil]; try omega; done)) only [go_sem], ?_⟩⟩)
      simp (disch := first | omega | (simp only [e_ssz, e_psz, e_hszs, List.length_cons, List.length_nil]; try omega; done)) only [↓reduceIte, go_sem, e0]
      refine effS_inv rfl (.inr ⟨rfl, b, t, rfl, hct, k, u2, _, B2, by simp; omega, hP.mono (st.ge.trans s2.ge), fun u3 h3 s3 B3 hb3 => ⟨by simp (disch := first | omega | (simp only [e_ssz, e_psz, e_hszs, List.length_cons, List.length_nil]; try omega; done)) only [go_sem], ?_⟩⟩)
      simp (disch := first | omega | (simp only [e_ssz, e_psz, e_hszs, List.length_cons, List.length_nil]; try omega; done)) only [↓reduceIte, go_sem, e10]
      obtain ⟨c1, c2⟩ := bld_chain s2 hb2 s3 hb3
      rw [List.append_assoc (m0 ++ m)] at B3
      exact fin _ u3 h3 _ (by simp [upd]) (by simp [upd]) (by simp [upd]) (by simp [upd]) (by simp [upd]) c1 B3 (by unfold sepS; rw [if_neg h0]) c2
  · obtain rfl : i = l.length := by omega
    simp (disch := first | omega | (simp only [e_ssz, e_psz, e_hszs, List.length_cons, List.length_nil]; try omega; done)) only [↓reduceIte, go_sem, prBetween_L1, e9, e10]
    rw [hm0'] at B'
    exact hK u' h' st B' hbb
end Go.Proofs.YteiopegaiohglaaDoor
