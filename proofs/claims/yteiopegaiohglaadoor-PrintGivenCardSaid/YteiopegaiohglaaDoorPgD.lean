/- print.Fact, print.Facts: their texts. -/
import Derived.Test.YteiopegaiohglaaDoorPgC
namespace Edict
theorem okF_len {f : Fact} (h : OkF f) : f.1.length ≤ 64 := (word_ln (name_word h.1)).1
theorem okF_W {f : Fact} (h : OkF f) : factW f = 0 := by
  obtain ⟨h1, h2, h3⟩ := h
  unfold factW
  rw [if_pos h1, if_neg (by omega)]
  have : ∀ l : List Const, (∀ c ∈ l, OkC c) → firstW constW l = 0 := by
    intro l
    induction l with
    | nil => exact fun _ => rfl
    | cons c l ih =>
      intro hl
      have : constW c = 0 := by unfold constW; rw [(hl c (List.mem_cons_self ..)).1]; rfl
      rw [firstW, if_pos this]
      exact ih fun x hx => hl x (List.mem_cons_of_mem _ hx)
  exact this _ h3
end Edict
namespace Go.Ev
open Go Edict
theorem rep_factG {u : U} {h : H} {k : Fact} {cs : List Value} : Rep.rep u h k cs = ∃ v, cs = [str k.1, v] ∧ IsSl u h v k.2 := by
  simp only [rep_prod, rep_str, rep_list]; apply propext; constructor
  · rintro ⟨_, _, rfl, rfl, v, rfl, hs⟩; exact ⟨v, rfl, hs⟩
  · rintro ⟨v, rfl, hs⟩; exact ⟨_, _, rfl, rfl, v, rfl, hs⟩
theorem sz_factG : Rep.sz Fact = 2 := rfl
end Go.Ev
namespace Go.Proofs.YteiopegaiohglaaDoor
open Go Go.Ev Edict
/-! ### Well -/
def C_first {α : Type} [Rep α] (g : FuncId) (f : α → Int) (vs : List Value) (h : H) (K : Value → H → Prop) : Prop := ∃ (u : U) (v : Value) (l : List α), vs = [v, .func (.func g) #[] #[]] ∧ IsSl u h v l ∧ (∀ x ∈ l, Rep.wf x) ∧ ∀ u' h', Step S0 u h u' h' → K (.int .i64 (firstW f l)) h'
def G_prFirstK : Ctr := fun f vs h K _ => (f = 30 ∧ C_data (vI constW) vs h K)
theorem G_prFirstK_ok : GOk Tryd.prog G_prFirstK := by
  rintro f vs h K KP (⟨rfl, hC⟩)
  exact prWellConst_ok hC
theorem prFirstK_ok {vs : List Value} {h : H} {K : Value → H → Prop} {KP : List PanicEntry → H → Prop} (hC : C_first 30 constW vs h K) : HCX Tryd.prog 29 vs h K KP := by
  obtain ⟨u, v, l, rfl, hl, hw, hK⟩ := hC
  obtain ⟨la, lc, rfl, q1, q2⟩ := hl.sl
  have hm := mlen
  refine prFirstK_H G_prFirstK G_prFirstK_ok _ _ ?_
  simp (disch := first | omega | (simp only [e_ssz, e_psz, e_hszs, List.length_cons, List.length_nil]; try omega; done)) only [↓reduceIte, go_sem, prFirstK_S, prFirstK_E]
  obtain ⟨I, hI⟩ : ∃ I : Nat → Env → H → Prop, I = fun i σ h' => σ 1 = .func (.func 30) #[] #[] ∧ σ 8 = .slice la l.length lc ∧ σ 9 = .int .i64 l.length ∧ σ 10 = .int .i64 i ∧ i ≤ l.length ∧ firstW constW l = firstW constW (l.drop i) ∧ ∃ u', Step S0 u h u' h' := ⟨_, rfl⟩
  refine wpS_loop I (fun i => l.length - i) 0 (by rw [hI]; exact ⟨by simp [upd], by simp [upd], by simp [upd], by simp [upd], Nat.zero_le _, rfl, u, .refl _ _ _⟩) ?_
  intro i σ h' hy
  rw [hI] at hy
  obtain ⟨e1, e8, e9, e10, hi, hf, u', st⟩ := hy
  by_cases hlt : i < l.length
  · obtain ⟨x, hs⟩ : ∃ x, l[i]? = some x := ⟨l[i], by simp [hlt]⟩
    obtain ⟨pb, po, rfl, hpb, hpu, hpz, hpr⟩ := (hl.mono st.ge).row i x hs
    rw [rep_const] at hpr
    simp only [sz_const, hvs_3, List.cons.injEq, and_true] at hpr hpu hpz
    obtain ⟨p0, p1, p2⟩ := hpr
    simp (disch := first | omega | (simp only [e_ssz, e_psz, e_hszs, List.length_cons, List.length_nil]; try omega; done)) only [↓reduceIte, go_sem, prFirstK_L1, e1, e8, e9, e10, hlt, p0, p1, p2]
    refine effS_callv ⟨rfl, _, x, _, rfl, (show Rep.rep (ub u' h'.size 0) _ x _ by rw [rep_const]), hw x (List.mem_of_getElem? hs), fun u2 h2 s2 => ⟨by simp (disch := first | omega | (simp only [e_ssz, e_psz, e_hszs, List.length_cons, List.length_nil]; try omega; done)) only [go_sem], ?_⟩⟩
    have s12 := Step.trans0 (S := S0) (u := u') (h := h') (by repeat (first | exact Step.refl _ _ _ | assumption | apply Step.pushR)) s2
    rw [firstW_drop hs] at hf
    simp only [vI]
    by_cases h0 : constW x = 0
    · rw [if_pos h0] at hf
      simp (disch := first | omega | (simp only [e_ssz, e_psz, e_hszs, List.length_cons, List.length_nil]; try omega; done)) only [↓reduceIte, go_sem, e10, h0]
      refine ⟨i + 1, ?_, by omega⟩
      rw [hI]
      exact ⟨by simp [upd, e1], by simp [upd, e8], by simp [upd, e9], by simp [upd], hlt, hf, u2, st.trans0 s12⟩
    · rw [if_neg h0] at hf
      rw [hf] at hK
      simp (disch := first | omega | (simp only [e_ssz, e_psz, e_hszs, List.length_cons, List.length_nil]; try omega; done)) only [↓reduceIte, go_sem, eq_false h0]
      exact hK _ _ (st.trans0 s12)
  · obtain rfl : i = l.length := by omega
    rw [List.drop_length] at hf
    rw [hf] at hK
    simp (disch := first | omega | (simp only [e_ssz, e_psz, e_hszs, List.length_cons, List.length_nil]; try omega; done)) only [↓reduceIte, go_sem, prFirstK_L1, e9, e10]
    exact hK _ _ st
def C_wellF (vs : List Value) (h : H) (K : Value → H → Prop) : Prop := ∃ (u : U) (f : Fact) (v : Value), vs = [.agg #[str f.1, v]] ∧ IsSl u h v f.2 ∧ OkF f ∧ ∀ u' h', Step S0 u h u' h' → K (.int .i64 0) h'
def G_prWellFact : Ctr := fun f vs h K _ => (f = 28 ∧ C_str nameB vs h K) ∨ (f = 29 ∧ C_first 30 constW vs h K)
theorem G_prWellFact_ok : GOk Tryd.prog G_prWellFact := by
  rintro f vs h K KP (⟨rfl, hC⟩ | ⟨rfl, hC⟩)
  · exact symIsName_ok hC
  · exact prFirstK_ok hC
theorem prWellFact_ok {vs : List Value} {h : H} {K : Value → H → Prop} {KP : List PanicEntry → H → Prop} (hC : C_wellF vs h K) : HCX Tryd.prog 14 vs h K KP := by
  obtain ⟨u, f, v, rfl, hl, hf, hK⟩ := hC
  obtain ⟨la, lc, rfl, q1, q2⟩ := hl.sl
  have hlen := okF_len hf
  have hfw := okF_W hf
  obtain ⟨f1, f2, f3⟩ := hf
  have hwf : ∀ x ∈ f.2, Rep.wf x := fun x hx => okC_wf (f3 x hx) (okC_kind (f3 x hx))
  refine prWellFact_H G_prWellFact G_prWellFact_ok _ ?_
  have sp : Step S0 u h _ _ := Step.push0 S0 u h #[str f.1, .slice la f.2.length lc] 28
  have X : Blk (ub u h.size 0) (h.push (.cells #[str f.1, .slice la f.2.length lc] 28)) h.size [str f.1, .slice la f.2.length lc] := (Blk.mk (by simp only [e_psz]; omega) (by simp (disch := first | omega | (simp only [e_ssz, e_psz, e_hszs, List.length_cons, List.length_nil]; try omega; done)) only [go_sem]) (by simp (disch := first | omega | (simp only [e_ssz, e_psz, e_hszs, List.length_cons, List.length_nil]; try omega; done)) only [go_sem]) (by repeat (first | (refine ub_at ?_; simp only []; done) | apply ub_zero)) (by simp (disch := first | omega | (simp only [e_ssz, e_psz, e_hszs, List.length_cons, List.length_nil]; try omega; done)) only [go_sem]))
  simp (disch := first | omega | (simp only [e_ssz, e_psz, e_hszs, List.length_cons, List.length_nil]; try omega; done)) only [↓reduceIte, go_sem, prWellFact_S, prWellFact_E]
  refine effS_call (.inl ⟨rfl, ub u h.size 0, f.1, rfl, by omega, fun u1 h1 s1 => ⟨by simp (disch := first | omega | (simp only [e_ssz, e_psz, e_hszs, List.length_cons, List.length_nil]; try omega; done)) only [go_sem], ?_⟩⟩)
  have X1 := X.step0 s1
  have st1 := sp.trans0 s1
  have hw1 : firstW constW f.2 = 0 := by
    unfold factW at hfw
    rw [if_pos f1, if_neg (by omega)] at hfw
    exact hfw
  simp (disch := first | omega | (simp only [e_ssz, e_psz, e_hszs, List.length_cons, List.length_nil]; try omega; done)) only [↓reduceIte, go_sem, f1, X1.at, X1.2.1, eq_false (show ¬ (8 : Int) < f.2.length by omega)]
  refine effS_call (.inr ⟨rfl, u1, _, f.2, rfl, hl.mono st1.ge, hwf, fun u2 h2 s2 => ⟨by simp (disch := first | omega | (simp only [e_ssz, e_psz, e_hszs, List.length_cons, List.length_nil]; try omega; done)) only [go_sem], ?_⟩⟩)
  simp (disch := first | omega | (simp only [e_ssz, e_psz, e_hszs, List.length_cons, List.length_nil]; try omega; done)) only [↓reduceIte, go_sem, hw1]
  exact hK _ _ (st1.trans0 s2)
/-! ### Writing a fact -/
def C_applied (vs : List Value) (h : H) (K : Value → H → Prop) : Prop := ∃ (b : Nat) (p : List UInt8) (v : Value) (l : List Const) (k : Nat) (u : U) (m0 : List UInt8), vs = [.pointer (some ⟨b, 0, none⟩), str p, v] ∧ (∀ t ∈ l, OkC t) ∧ l.length ≤ 8 ∧ p.length ≤ 64 ∧
  Bu k u h b m0 ∧ m0.length ≤ 80000000 ∧ PowG u h ∧ IsSlP u h v l ∧
  ∀ u' h', Step (BldB h b) u h u' h' → Bu k u' h' b (m0 ++ factS (p, l)) → (∀ i, BldB h' b i → BldB h b i ∨ h.size ≤ i) → K (.tuple #[]) h'
def G_prApplied : Ctr := fun f vs h K _ => (f = 16 ∧ C_wstr vs h K) ∨ (f = 43 ∧ C_wbyte vs h K) ∨ (f = 44 ∧ C_between vs h K)
theorem G_prApplied_ok : GOk Tryd.prog G_prApplied := by
  rintro f vs h K KP (⟨rfl, hC⟩ | ⟨rfl, hC⟩ | ⟨rfl, hC⟩)
  · exact sbWriteString_ok hC
  · exact sbWriteByte_ok hC
  · exact prBetween_ok hC
theorem prApplied_ok {vs : List Value} {h : H} {K : Value → H → Prop} {KP : List PanicEntry → H → Prop} (hC : C_applied vs h K) : HCX Tryd.prog 31 vs h K KP := by
  obtain ⟨b, p, v, l, k, u, m0, rfl, hall, hlen, hp, B, hm0, hP, hl, hK⟩ := hC
  have hpl := (prA_ln hall l.length (Nat.le_refl _)).1
  obtain ⟨la, lc, rfl, q1, q2⟩ := @IsSl.sl Const repPart _ _ _ _ hl
  refine prApplied_H G_prApplied G_prApplied_ok _ _ _ ?_
  simp (disch := first | omega | (simp only [e_ssz, e_psz, e_hszs, List.length_cons, List.length_nil]; try omega; done)) only [↓reduceIte, go_sem, prApplied_S, prApplied_E]
  refine effS_call (.inl ⟨rfl, _, p, rfl, k, u, b, m0, rfl, B, by omega, fun u1 h1 s1 B1 hb1 => ⟨by simp (disch := first | omega | (simp only [e_ssz, e_psz, e_hszs, List.length_cons, List.length_nil]; try omega; done)) only [go_sem], ?_⟩⟩)
  unfold factS at hK
  simp only at hK
  by_cases h0 : l.length = 0
  · rw [if_pos h0, List.append_nil] at hK
    simp (disch := first | omega | (simp only [e_ssz, e_psz, e_hszs, List.length_cons, List.length_nil]; try omega; done)) only [↓reduceIte, go_sem, eq_false (show ¬ (0 : Int) < l.length by omega)]
    exact hK u1 h1 s1 B1 hb1
  · rw [if_neg h0] at hK
    simp (disch := first | omega | (simp only [e_ssz, e_psz, e_hszs, List.length_cons, List.length_nil]; try omega; done)) only [↓reduceIte, go_sem, eq_true (show (0 : Int) < l.length by omega)]
    refine effS_call (.inr (.inl ⟨rfl, _, 40, rfl, k, u1, b, _, rfl, B1, by simp; omega, fun u2 h2 s2 B2 hb2 => ⟨by simp (disch := first | omega | (simp only [e_ssz, e_psz, e_hszs, List.length_cons, List.length_nil]; try omega; done)) only [go_sem], ?_⟩⟩))
    obtain ⟨c1, c2⟩ := bld_chain s1 hb1 s2 hb2
    simp (disch := first | omega | (simp only [e_ssz, e_psz, e_hszs, List.length_cons, List.length_nil]; try omega; done)) only [↓reduceIte, go_sem]
    refine effS_call (.inr (.inr ⟨rfl, b, _, l, u2, rfl, hall, hlen, k, u2, _, B2, by simp; omega, hP.mono c1.ge, @IsSl.mono Const repPart _ _ _ _ _ _ c1.ge hl, fun u3 h3 s3 B3 hb3 => ⟨by simp (disch := first | omega | (simp only [e_ssz, e_psz, e_hszs, List.length_cons, List.length_nil]; try omega; done)) only [go_sem], ?_⟩⟩))
    obtain ⟨c3, c4⟩ := bld_chain c1 c2 s3 hb3
    simp (disch := first | omega | (simp only [e_ssz, e_psz, e_hszs, List.length_cons, List.length_nil]; try omega; done)) only [↓reduceIte, go_sem]
    refine effS_call (.inr (.inl ⟨rfl, _, 41, rfl, k, u3, b, _, rfl, B3, by simp; omega, fun u4 h4 s4 B4 hb4 => ⟨by simp (disch := first | omega | (simp only [e_ssz, e_psz, e_hszs, List.length_cons, List.length_nil]; try omega; done)) only [go_sem], ?_⟩⟩))
    obtain ⟨c5, c6⟩ := bld_chain c3 c4 s4 hb4
    simp (disch := first | omega | (simp only [e_ssz, e_psz, e_hszs, List.length_cons, List.length_nil]; try omega; done)) only [go_sem]
    refine hK u4 h4 c5 ?_ c6
    have e : m0 ++ (p ++ ([40] ++ prA l l.length ++ [41])) = m0 ++ p ++ [40] ++ prA l l.length ++ [41] := by simp only [List.append_assoc]
    rw [e]; exact B4
def C_factW (vs : List Value) (h : H) (K : Value → H → Prop) : Prop := ∃ (b : Nat) (f : Fact) (v : Value) (k : Nat) (u : U) (m0 : List UInt8), vs = [.agg #[str f.1, v], .pointer (some ⟨b, 0, none⟩)] ∧ IsSl u h v f.2 ∧ OkF f ∧
  Bu k u h b m0 ∧ m0.length ≤ 80000000 ∧ PowG u h ∧ ∀ u' h', Step (BldB h b) u h u' h' → Bu k u' h' b (m0 ++ factS f) → (∀ i, BldB h' b i → BldB h b i ∨ h.size ≤ i) → K (.tuple #[]) h'
def G_prFactW : Ctr := fun f vs h K _ => (f = 32 ∧ C_parts vs h K) ∨ (f = 31 ∧ C_applied vs h K)
theorem G_prFactW_ok : GOk Tryd.prog G_prFactW := by
  rintro f vs h K KP (⟨rfl, hC⟩ | ⟨rfl, hC⟩)
  · exact prPartsK_ok hC
  · exact prApplied_ok hC
theorem prFactW_ok {vs : List Value} {h : H} {K : Value → H → Prop} {KP : List PanicEntry → H → Prop} (hC : C_factW vs h K) : HCX Tryd.prog 15 vs h K KP := by
  obtain ⟨b, f, v, k, u, m0, rfl, hl, hf, B, hm0, hP, hK⟩ := hC
  have hlen := okF_len hf
  obtain ⟨la, lc, rfl, q1, q2⟩ := hl.sl
  refine prFactW_H G_prFactW G_prFactW_ok _ _ ?_
  have sp : Step S0 u h _ _ := Step.push0 S0 u h #[str f.1, .slice la f.2.length lc] 53
  have X : Blk (ub u h.size 0) (h.push (.cells #[str f.1, .slice la f.2.length lc] 53)) h.size [str f.1, .slice la f.2.length lc] := (Blk.mk (by simp only [e_psz]; omega) (by simp (disch := first | omega | (simp only [e_ssz, e_psz, e_hszs, List.length_cons, List.length_nil]; try omega; done)) only [go_sem]) (by simp (disch := first | omega | (simp only [e_ssz, e_psz, e_hszs, List.length_cons, List.length_nil]; try omega; done)) only [go_sem]) (by repeat (first | (refine ub_at ?_; simp only []; done) | apply ub_zero)) (by simp (disch := first | omega | (simp only [e_ssz, e_psz, e_hszs, List.length_cons, List.length_nil]; try omega; done)) only [go_sem]))
  simp (disch := first | omega | (simp only [e_ssz, e_psz, e_hszs, List.length_cons, List.length_nil]; try omega; done)) only [↓reduceIte, go_sem, prFactW_S, prFactW_E]
  refine effS_call (.inl ⟨rfl, ub u h.size 0, _, f.2, rfl, hl.mono sp.ge, by have := hf.2.1; omega, fun u1 h1 w s1 hw1 => ⟨?_, ?_⟩⟩)
  · have X1 := X.step0 s1
    simp (disch := first | omega | (simp only [e_ssz, e_psz, e_hszs, List.length_cons, List.length_nil]; try omega; done)) only [↓reduceIte, go_sem, X.at, X1.at, X1.2.1]
  have st1 := sp.trans0 s1
  obtain ⟨B1, e1⟩ := B.step0 st1
  simp (disch := first | omega | (simp only [e_ssz, e_psz, e_hszs, List.length_cons, List.length_nil]; try omega; done)) only [↓reduceIte, go_sem]
  refine effS_call (.inr ⟨rfl, b, f.1, w, f.2, k, u1, m0, rfl, hf.2.2, hf.2.1, hlen, B1, hm0, hP.mono st1.ge, hw1, fun u2 h2 s2 B2 hb2 => ⟨by simp (disch := first | omega | (simp only [e_ssz, e_psz, e_hszs, List.length_cons, List.length_nil]; try omega; done)) only [go_sem], ?_⟩⟩)
  obtain ⟨c1, c2⟩ := bld_pre B st1 s2 hb2
  simp (disch := first | omega | (simp only [e_ssz, e_psz, e_hszs, List.length_cons, List.length_nil]; try omega; done)) only [go_sem]
  exact hK u2 h2 c1 B2 c2
/-! ### The texts -/
def C_textF (vs : List Value) (h : H) (K : Value → H → Prop) : Prop := ∃ (f : Fact) (v : Value) (u : U), vs = [.int .i64 0, .iface 53 (.agg #[str f.1, v])] ∧ IsSl u h v f.2 ∧ OkF f ∧ PowG u h ∧
  ∀ u' h', Step S0 u h u' h' → K (str (factS f)) h'
def G_prText : Ctr := fun f vs h K _ => (f = 15 ∧ C_factW vs h K) ∨ (f = 17 ∧ C_bstring vs h K)
theorem G_prText_ok : GOk Tryd.prog G_prText := by
  rintro f vs h K KP (⟨rfl, hC⟩ | ⟨rfl, hC⟩)
  · exact prFactW_ok hC
  · exact sbString_ok hC
theorem prText_ok {vs : List Value} {h : H} {K : Value → H → Prop} {KP : List PanicEntry → H → Prop} (hC : C_textF vs h K) : HCX Tryd.prog 22 vs h K KP := by
  obtain ⟨f, v, u, rfl, hl, hf, hP, hK⟩ := hC
  refine prText_H G_prText G_prText_ok _ _ ?_
  simp (disch := first | omega | (simp only [e_ssz, e_psz, e_hszs, List.length_cons, List.length_nil]; try omega; done)) only [↓reduceIte, go_sem, prText_S, prText_E]
  have sp : Step S0 u h _ _ := Step.push0 S0 u h #[.pointer none, .slice none 0 0] 51
  have B := Bu.new u h
  refine effS_inv rfl (.inl ⟨rfl, h.size, f, v, h.size, ub u h.size 0, [], rfl, hl.mono sp.ge, hf, B, by simp, hP.mono sp.ge, fun u1 h1 s1 B1 _ => ⟨by simp (disch := first | omega | (simp only [e_ssz, e_psz, e_hszs, List.length_cons, List.length_nil]; try omega; done)) only [go_sem], ?_⟩⟩)
  have st1 : Step S0 u h u1 h1 := sp.trans s1 (fun i hi hB => by have := (B.ge hB).1; omega)
  simp (disch := first | omega | (simp only [e_ssz, e_psz, e_hszs, List.length_cons, List.length_nil]; try omega; done)) only [↓reduceIte, go_sem]
  refine effS_call (.inr ⟨rfl, h.size, u1, h.size, _, rfl, B1, fun h2 hs hb => ⟨by simp (disch := first | omega | (simp only [e_ssz, e_psz, e_hszs, List.length_cons, List.length_nil]; try omega; done)) only [go_sem], ?_⟩⟩)
  simp (disch := first | omega | (simp only [e_ssz, e_psz, e_hszs, List.length_cons, List.length_nil]; try omega; done)) only [↓reduceIte, go_sem]
  exact hK u1 h2 (Step.below st1 hs hb)
def C_pFactT (vs : List Value) (h : H) (K : Value → H → Prop) : Prop := ∃ (f : Fact) (v : Value) (u : U), vs = [.agg #[str f.1, v]] ∧ IsSl u h v f.2 ∧ OkF f ∧ PowG u h ∧
  ∀ u' h', Step S0 u h u' h' → K (str (factS f)) h'
def G_prFact : Ctr := fun f vs h K _ => (f = 14 ∧ C_wellF vs h K) ∨ (f = 22 ∧ C_textF vs h K)
theorem G_prFact_ok : GOk Tryd.prog G_prFact := by
  rintro f vs h K KP (⟨rfl, hC⟩ | ⟨rfl, hC⟩)
  · exact prWellFact_ok hC
  · exact prText_ok hC
theorem prFact_ok {vs : List Value} {h : H} {K : Value → H → Prop} {KP : List PanicEntry → H → Prop} (hC : C_pFactT vs h K) : HCX Tryd.prog 8 vs h K KP := by
  obtain ⟨f, v, u, rfl, hl, hf, hP, hK⟩ := hC
  obtain ⟨la, lc, rfl, q1, q2⟩ := hl.sl
  refine prFact_H G_prFact G_prFact_ok _ ?_
  have sp : Step S0 u h _ _ := Step.push0 S0 u h #[str f.1, .slice la f.2.length lc] 28
  have X : Blk (ub u h.size 0) (h.push (.cells #[str f.1, .slice la f.2.length lc] 28)) h.size [str f.1, .slice la f.2.length lc] := (Blk.mk (by simp only [e_psz]; omega) (by simp (disch := first | omega | (simp only [e_ssz, e_psz, e_hszs, List.length_cons, List.length_nil]; try omega; done)) only [go_sem]) (by simp (disch := first | omega | (simp only [e_ssz, e_psz, e_hszs, List.length_cons, List.length_nil]; try omega; done)) only [go_sem]) (by repeat (first | (refine ub_at ?_; simp only []; done) | apply ub_zero)) (by simp (disch := first | omega | (simp only [e_ssz, e_psz, e_hszs, List.length_cons, List.length_nil]; try omega; done)) only [go_sem]))
  simp (disch := first | omega | (simp only [e_ssz, e_psz, e_hszs, List.length_cons, List.length_nil]; try omega; done)) only [↓reduceIte, go_sem, prFact_S, prFact_E]
  refine effS_call (.inl ⟨rfl, ub u h.size 0, f, _, rfl, hl.mono sp.ge, hf, fun u1 h1 s1 => ⟨?_, ?_⟩⟩)
  · have X1 := X.step0 s1
    simp (disch := first | omega | (simp only [e_ssz, e_psz, e_hszs, List.length_cons, List.length_nil]; try omega; done)) only [↓reduceIte, go_sem, X.at, X1.at, X1.2.1]
  have st1 := sp.trans0 s1
  simp (disch := first | omega | (simp only [e_ssz, e_psz, e_hszs, List.length_cons, List.length_nil]; try omega; done)) only [↓reduceIte, go_sem]
  refine effS_call (.inr ⟨rfl, f, _, u1, rfl, hl.mono st1.ge, hf, hP.mono st1.ge, fun u2 h2 s2 => ⟨by simp (disch := first | omega | (simp only [e_ssz, e_psz, e_hszs, List.length_cons, List.length_nil]; try omega; done)) only [go_sem], ?_⟩⟩)
  simp (disch := first | omega | (simp only [e_ssz, e_psz, e_hszs, List.length_cons, List.length_nil]; try omega; done)) only [↓reduceIte, go_sem]
  exact hK u2 h2 (st1.trans0 s2)
def C_pFactsT (vs : List Value) (h : H) (K : Value → H → Prop) : Prop := ∃ (v : Value) (l : List Fact) (u : U), vs = [v] ∧ IsSl u h v l ∧ (∀ f ∈ l, OkF f) ∧ l.length ≤ 4096 ∧ PowG u h ∧
  ∀ u' h', Step S0 u h u' h' → K (str (factsT l l.length)) h'
def G_prFacts : Ctr := fun f vs h K _ => (f = 14 ∧ C_wellF vs h K) ∨ (f = 15 ∧ C_factW vs h K) ∨ (f = 16 ∧ C_wstr vs h K) ∨ (f = 17 ∧ C_bstring vs h K)
theorem G_prFacts_ok : GOk Tryd.prog G_prFacts := by
  rintro f vs h K KP (⟨rfl, hC⟩ | ⟨rfl, hC⟩ | ⟨rfl, hC⟩ | ⟨rfl, hC⟩)
  · exact prWellFact_ok hC
  · exact prFactW_ok hC
  · exact sbWriteString_ok hC
  · exact sbString_ok hC
theorem prFacts_ok {vs : List Value} {h : H} {K : Value → H → Prop} {KP : List PanicEntry → H → Prop} (hC : C_pFactsT vs h K) : HCX Tryd.prog 5 vs h K KP := by
  obtain ⟨v, l, u, rfl, hl, hall, hlen, hP, hK⟩ := hC
  obtain ⟨la, lc, rfl, q1, q2⟩ := hl.sl
  have hm := mlen
  refine prFacts_H G_prFacts G_prFacts_ok _ ?_
  have sp : Step S0 u h _ _ := Step.push0 S0 u h #[.pointer none, .slice none 0 0] 51
  have B := Bu.new u h
  simp (disch := first | omega | (simp only [e_ssz, e_psz, e_hszs, List.length_cons, List.length_nil]; try omega; done)) only [↓reduceIte, go_sem, prFacts_S, prFacts_E]
  obtain ⟨I, hI⟩ : ∃ I : Nat → Env → H → Prop, I = fun i σ h' => σ 3 = .pointer (some ⟨h.size, 0, none⟩) ∧ σ 6 = .slice la l.length lc ∧ σ 7 = .int .i64 l.length ∧ σ 8 = .int .i64 i ∧ i ≤ l.length ∧
    ∃ (u' : U), Step S0 u h u' h' ∧ Bu h.size u' h' h.size (factsT l i) := ⟨_, rfl⟩
  refine wpS_loop I (fun i => l.length - i) 0 (by
    rw [hI]
    exact ⟨by simp [upd], by simp [upd], by simp [upd], by simp [upd], Nat.zero_le _, _, sp, B⟩) ?_
  clear B sp
  intro i σ h' hy
  rw [hI] at hy
  obtain ⟨e3, e6, e7, e8, hi, u', st, B⟩ := hy
  have hfl := factsT_len hall i hi
  by_cases hlt : i < l.length
  · obtain ⟨x, hx⟩ : ∃ x, l[i]? = some x := ⟨l[i], by simp [hlt]⟩
    have hf := hall x (List.mem_of_getElem? hx)
    have hgd : l.getD i noF = x := by rw [List.getD_eq_getElem?_getD, hx]; rfl
    have hfx := (factS_ln hf).1
    obtain ⟨pb, po, rfl, hpb, hpu, hpz, hpr⟩ := (hl.mono st.ge).row i x hx
    rw [rep_factG] at hpr
    obtain ⟨xv, hpr, ixv⟩ := hpr
    obtain ⟨xa, xc, rfl, -, -⟩ := ixv.sl
    simp only [sz_factG, hvs_2, List.cons.injEq, and_true] at hpr hpu hpz
    obtain ⟨p0, p1⟩ := hpr
    have sX := Step.push0 S0 u' h' #[str x.1, .slice xa x.2.length xc] 28
    have X : Blk (ub u' h'.size 0) (h'.push (.cells #[str x.1, .slice xa x.2.length xc] 28)) h'.size [str x.1, .slice xa x.2.length xc] := (Blk.mk (by simp only [e_psz]; omega) (by simp (disch := first | omega | (simp only [e_ssz, e_psz, e_hszs, List.length_cons, List.length_nil]; try omega; done)) only [go_sem]) (by simp (disch := first | omega | (simp only [e_ssz, e_psz, e_hszs, List.length_cons, List.length_nil]; try omega; done)) only [go_sem]) (by repeat (first | (refine ub_at ?_; simp only []; done) | apply ub_zero)) (by simp (disch := first | omega | (simp only [e_ssz, e_psz, e_hszs, List.length_cons, List.length_nil]; try omega; done)) only [go_sem]))
    simp (disch := first | omega | (simp only [e_ssz, e_psz, e_hszs, List.length_cons, List.length_nil]; try omega; done)) only [↓reduceIte, go_sem, prFacts_L1, e6, e7, e8, hlt, p0, p1]
    refine effS_call (.inl ⟨rfl, ub u' h'.size 0, x, _, rfl, ixv.mono sX.ge, hf, fun u1 h1 s1 => ⟨by simp (disch := first | omega | (simp only [e_ssz, e_psz, e_hszs, List.length_cons, List.length_nil]; try omega; done)) only [go_sem], ?_⟩⟩)
    have X1 := X.step0 s1
    have st1 := sX.trans0 s1
    obtain ⟨B1, -⟩ := B.step0 st1
    simp (disch := first | omega | (simp only [e_ssz, e_psz, e_hszs, List.length_cons, List.length_nil]; try omega; done)) only [↓reduceIte, go_sem, X1.at, X1.2.1, e3]
    refine effS_call (.inr (.inl ⟨rfl, h.size, x, _, h.size, u1, _, rfl, ixv.mono st1.ge, hf, B1, by omega, hP.mono (st.trans0 st1).ge, fun u2 h2 s2 B2 hb2 => ⟨by simp (disch := first | omega | (simp only [e_ssz, e_psz, e_hszs, List.length_cons, List.length_nil]; try omega; done)) only [go_sem], ?_⟩⟩))
    have st2 : Step S0 u h u2 h2 := (st.trans0 st1).trans s2 (fun j hj hB => by have := (B1.ge hB).1; omega)
    simp (disch := first | omega | (simp only [e_ssz, e_psz, e_hszs, List.length_cons, List.length_nil]; try omega; done)) only [↓reduceIte, go_sem, e3]
    refine effS_call (.inr (.inr (.inl ⟨rfl, _, [46, 10], rfl, h.size, u2, h.size, _, rfl, B2, by simp only [List.length_append, List.length_cons, List.length_nil]; omega, fun u3 h3 s3 B3 hb3 => ⟨by simp (disch := first | omega | (simp only [e_ssz, e_psz, e_hszs, List.length_cons, List.length_nil]; try omega; done)) only [go_sem], ?_⟩⟩)))
    have st3 : Step S0 u h u3 h3 := st2.trans s3 (fun j hj hB => by have := (B2.ge hB).1; omega)
    simp (disch := first | omega | (simp only [e_ssz, e_psz, e_hszs, List.length_cons, List.length_nil]; try omega; done)) only [↓reduceIte, go_sem, e8]
    refine ⟨i + 1, ?_, by omega⟩
    rw [hI]
    exact ⟨by simp [upd, e3], by simp [upd, e6], by simp [upd, e7], by simp [upd], hlt, u3, st3, by rw [factsT_succ, hgd]; exact B3⟩
  · obtain rfl : i = l.length := by omega
    simp (disch := first | omega | (simp only [e_ssz, e_psz, e_hszs, List.length_cons, List.length_nil]; try omega; done)) only [↓reduceIte, go_sem, prFacts_L1, e3, e7, e8]
    refine effS_call (.inr (.inr (.inr ⟨rfl, h.size, u', h.size, _, rfl, B, fun h4 hs hb => ⟨by simp (disch := first | omega | (simp only [e_ssz, e_psz, e_hszs, List.length_cons, List.length_nil]; try omega; done)) only [go_sem], ?_⟩⟩)))
    simp (disch := first | omega | (simp only [e_ssz, e_psz, e_hszs, List.length_cons, List.length_nil]; try omega; done)) only [↓reduceIte, go_sem]
    exact hK u' h4 (Step.below st hs hb)
end Go.Proofs.YteiopegaiohglaaDoor
