import Derived.Test.YtkobamedfbgjbaaKcS
import Derived.Test.YtkobamedfbgjbaaKpD
section Merged
namespace Go.Proofs.Ytkobamedfbgjbaa
open Go Go.Ev Edict
theorem crAtoms_ok {vs : List Value} {h : H} {K : Value → H → Prop} {KP : List PanicEntry → H → Prop} (hC : C_lits atomsL vs h K) : HCX Try.prog 29 vs h K KP := by
  obtain ⟨u, v, ls, rfl, hl, hbk, hK⟩ := hC
  obtain ⟨la, lc, rfl, q1, q2⟩ := hl.sl
  have hm := mlen'
  have hll := bulkL_pos ls
  refine crAtoms_H (fun _ _ _ _ _ => False) (fun _ _ _ _ _ h => h.elim) _ ?_
  simp (disch := first | omega | (simp only [zz]; try omega; done)) only [↓reduceIte, go_sem, crAtoms_S, crAtoms_E]
  obtain ⟨I, hI⟩ : ∃ I : Nat → Env → H → Prop, I = fun i σ h' => σ 6 = .slice la ls.length lc ∧ σ 7 = .int .i64 ls.length ∧ σ 8 = .int .i64 i ∧ i ≤ ls.length ∧ ∃ u', Step S0 u h u' h' ∧ Own h.size u' h' (σ 3) (atomsL (ls.take i)) := ⟨_, rfl⟩
  refine wpS_loop I (fun i => ls.length - i) 0 (by rw [hI]; exact ⟨by simp [upd], by simp [upd], by simp [upd], Nat.zero_le _, u, .refl _ _ _, by simp only [upd]; exact .nil _ _ _⟩) ?_
  intro i σ h' hy
  rw [hI] at hy
  obtain ⟨e6, e7, e8, hi, u', st, ho⟩ := hy
  by_cases hlt : i < ls.length
  · skip
    obtain ⟨x, hs⟩ : ∃ x, ls[i]? = some x := ⟨ls[i], by simp [hlt]⟩
    obtain ⟨pb, po, rfl, hpb, hpu, hpz, hpr⟩ := (hl.mono st.ge).row i x hs
    have hprs := hpr
    rw [rep_literal] at hpr
    obtain ⟨pv, hpr, hpv⟩ := hpr
    obtain ⟨pva, pvc, rfl, r1, r2⟩ := hpv.sl
    have hcs : hvs h' pb (po + i * Rep.sz Literal) (Rep.sz Literal) = #[.int .i64 x.1, str x.2.1.1, .slice pva x.2.1.2.1.length pvc, .int .i64 x.2.1.2.2, .int .i64 x.2.2.1, .int .i64 x.2.2.2.1.1, .int .i64 x.2.2.2.1.2.1, str x.2.2.2.1.2.2.1, .int .i64 x.2.2.2.1.2.2.2, .int .i64 x.2.2.2.2.1.1, .int .i64 x.2.2.2.2.1.2.1, str x.2.2.2.2.1.2.2.1, .int .i64 x.2.2.2.2.1.2.2.2, .int .i64 x.2.2.2.2.2].toList := by rw [hpr]; rfl
    rw [hcs] at hprs
    simp only [Term.enc, sz_literal, hvs_14, List.cons_append, List.nil_append, List.cons.injEq, and_true] at hpr hpu hpz
    obtain ⟨p0, p1, p2, p3, p4, p5, p6, p7, p8, p9, p10, p11, p12, p13⟩ := hpr
    have sp := Step.push0 S0 u' h' #[.int .i64 x.1, str x.2.1.1, .slice pva x.2.1.2.1.length pvc, .int .i64 x.2.1.2.2, .int .i64 x.2.2.1, .int .i64 x.2.2.2.1.1, .int .i64 x.2.2.2.1.2.1, str x.2.2.2.1.2.2.1, .int .i64 x.2.2.2.1.2.2.2, .int .i64 x.2.2.2.2.1.1, .int .i64 x.2.2.2.2.1.2.1, str x.2.2.2.2.1.2.2.1, .int .i64 x.2.2.2.2.1.2.2.2, .int .i64 x.2.2.2.2.2] 109
    have hos := ho.step0 sp
    have hk0 : h.size ≤ h'.size := st.ge.sz
    have hsn : atomsL (ls.take (i + 1)) = atomsL (ls.take i) ++ atomsL [x] := by unfold atomsL; rw [List.take_add_one, hs, Option.toList_some, List.filter_append, List.map_append]
    have hlen : (atomsL (ls.take i)).length ≤ ls.length := by unfold atomsL; rw [List.length_map]; exact Nat.le_trans (List.length_filter_le ..) (by rw [List.length_take]; exact Nat.min_le_right _ _)
    have hne : ∀ b, OwnB (σ 3) b → h.size ≤ b := fun b hb => ho.ge hb
    by_cases hk : x.1 = 1 ∨ x.1 = 2
    · have hr : atomsL [x] = [x.2.1] := by unfold atomsL isA; simp [hk]
      have fin : ∀ (r : List St) (Q : Env → H → Prop) (KP' : List PanicEntry → H → Prop) (σ' : Env) (p : Nat) (h0 : H) (u0 : U), p = h0.size → Own h.size u0 h0 (σ 3) (atomsL (ls.take i)) → Step S0 u h u0 h0 → IsSl u0 h0 (.slice pva x.2.1.2.1.length pvc) x.2.1.2.1 → (∀ a n c u3 h3, Own h.size u3 h3 (.slice a n c) (atomsL (ls.take i) ++ [x.2.1]) → Step S0 u h u3 h3 → wpSts (fun _ _ _ _ _ => False) r Q KP' (updo σ' (some 24) (.slice a n c)) h3) →
          effS (fun _ _ _ _ _ => False) (.app 45 3 48 [str [], .slice none 0 0, .int .i64 0]) (some 24) [] r Q KP' [σ 3, .slice (some ⟨p, 0, none⟩) 1 1] σ' (h0.push (.cells #[str x.2.1.1, .slice pva x.2.1.2.1.length pvc, .int .i64 x.2.1.2.2] 45)) := fun r Q KP' σ' p h0 u0 hp ho0 s0 i0 hq =>
        effS_app1p hp ho0 (x := x.2.1) (cs := [str x.2.1.1, .slice pva x.2.1.2.1.length pvc, .int .i64 x.2.1.2.2]) (by rw [rep_atom]; exact ⟨_, rfl, i0⟩) rfl rfl s0.ge.sz (by omega) fun a n c u3 h3 ho3 s3 => ⟨by simp only [e_stab0], hq a n c u3 h3 ho3 (s0.trans s3 (fun b hb hB => by have := ho0.ge hB; omega))⟩
      have next : ∀ (σ' : Env) (u3 : U) (h3 : H), σ' 6 = σ 6 → σ' 7 = σ 7 → σ' 8 = .int .i64 ((i : Int) + 1) → Step S0 u h u3 h3 → Own h.size u3 h3 (σ' 3) (atomsL (ls.take i) ++ [x.2.1]) → ∃ y, I y σ' h3 ∧ ls.length - y < ls.length - i := fun σ' u3 h3 g6 g7 g8 sx ho' => by
        refine ⟨i + 1, ?_, by omega⟩
        rw [hI]
        exact ⟨by rw [g6, e6], by rw [g7, e7], g8, hlt, u3, sx, by rw [hsn, hr]; exact ho'⟩
      rcases hk with hk | hk
      · simp (disch := first | omega | (simp only [zz]; try omega; done)) only [↓reduceIte, go_sem, crAtoms_L1, e6, e7, e8, hlt, p0, p1, p2, p3, p4, p5, p6, p7, p8, p9, p10, p11, p12, p13, eq_true hk]
        refine fin _ _ _ _ (h'.size + 1) _ _ (by simp only [e_psz]) hos (st.trans0 sp) (hpv.mono sp.ge) fun a n c u3 h3 ho3 st3 => ?_
        simp (disch := first | omega | (simp only [zz]; try omega; done)) only [↓reduceIte, go_sem, e8]
        exact next _ u3 h3 (by simp [upd]) (by simp [upd]) (by simp [upd]) st3 (by simpa [upd] using ho3)
      · simp (disch := first | omega | (simp only [zz]; try omega; done)) only [↓reduceIte, go_sem, crAtoms_L1, e6, e7, e8, hlt, p0, p1, p2, p3, p4, p5, p6, p7, p8, p9, p10, p11, p12, p13, eq_true hk, eq_false (show ¬ x.1 = 1 by omega)]
        refine fin _ _ _ _ (h'.size + 1) _ _ (by simp only [e_psz]) hos (st.trans0 sp) (hpv.mono sp.ge) fun a n c u3 h3 ho3 st3 => ?_
        simp (disch := first | omega | (simp only [zz]; try omega; done)) only [↓reduceIte, go_sem, e8]
        exact next _ u3 h3 (by simp [upd]) (by simp [upd]) (by simp [upd]) st3 (by simpa [upd] using ho3)
    · have hr : atomsL [x] = [] := by unfold atomsL isA; simp [hk]
      simp (disch := first | omega | (simp only [zz]; try omega; done)) only [↓reduceIte, go_sem, crAtoms_L1, e6, e7, e8, hlt, p0, p1, p2, p3, p4, p5, p6, p7, p8, p9, p10, p11, p12, p13, eq_false (show ¬ x.1 = 1 by omega), eq_false (show ¬ x.1 = 2 by omega)]
      refine ⟨i + 1, ?_, by omega⟩
      rw [hI]
      exact ⟨by simp [upd, e6], by simp [upd, e7], by simp [upd], hlt, _, st.trans0 sp, by rw [hsn, hr, List.append_nil]; simpa [upd] using hos⟩
  · obtain rfl : i = ls.length := by omega
    rw [List.take_length] at ho
    simp (disch := first | omega | (simp only [zz]; try omega; done)) only [↓reduceIte, go_sem, crAtoms_L1, e7, e8]
    exact hK _ _ _ st ho.isSl
theorem clause_bulkT {c : Clause} (hb : Rep.bulk c ≤ 1048576) : bulkL c.2 ≤ 1048576 ∧ c.1.2.1.length ≤ 1048576 ∧ (c.2.flatMap termsL).length ≤ 1048576 := by
  have h2 := flat_bulk termsL_len c.2
  have h3 : Rep.bulk c = (c.1.1.length + 1 + (bulkL c.1.2.1 + 1)) + bulkL c.2 := rfl
  have h4 := bulkL_pos c.1.2.1
  omega
def C_ofC {α : Type} [Rep α] (f : Clause → List α) (vs : List Value) (h : H) (K : Value → H → Prop) : Prop := ∃ (u : U) (c : Clause) (l : List Value), vs = [.agg l.toArray] ∧ Rep.rep u h c l ∧ Rep.bulk c ≤ 1048576 ∧ ∀ u' h' w, Step S0 u h u' h' → IsSl u' h' w (f c) → K w h'
theorem crAll_ok {vs : List Value} {h : H} {K : Value → H → Prop} {KP : List PanicEntry → H → Prop} (hC : C_ofC termsC vs h K) : HCX Try.prog 31 vs h K KP := by
  obtain ⟨u, c, l, rfl, hr, hbk, hK⟩ := hC
  obtain ⟨hb1, hb2, hb3⟩ := clause_bulkT hbk
  rw [rep_clause] at hr
  obtain ⟨va, vb, rfl, hh, hb⟩ := hr
  obtain ⟨ha, hc, rfl, -, -⟩ := hh.sl
  obtain ⟨ba, bc, rfl, -, -⟩ := hb.sl
  have hm := mlen'
  refine crAll_H G_crAsked G_crAsked_ok _ ?_
  simp (disch := first | omega | (simp only [zz]; try omega; done)) only [↓reduceIte, go_sem, crAll_S, crAll_E]
  have sp : Step S0 u h _ _ := Step.push0 S0 u h #[str c.1.1, .slice ha c.1.2.1.length hc, .int .i64 c.1.2.2, .slice ba c.2.length bc] 48
  have o1 := own_empty (α := Term) (h.size + 1) (ub u h.size 0) (h.push (.cells #[str c.1.1, .slice ha c.1.2.1.length hc, .int .i64 c.1.2.2, .slice ba c.2.length bc] 48)) (by simp only [e_psz]; omega) 94
  have sp2 := Step.push0 S0 (ub u h.size 0) (h.push (.cells #[str c.1.1, .slice ha c.1.2.1.length hc, .int .i64 c.1.2.2, .slice ba c.2.length bc] 48)) #[] 94
  have B1 : Blk (ub u h.size 0) (h.push (.cells #[str c.1.1, .slice ha c.1.2.1.length hc, .int .i64 c.1.2.2, .slice ba c.2.length bc] 48)) h.size [str c.1.1, .slice ha c.1.2.1.length hc, .int .i64 c.1.2.2, .slice ba c.2.length bc] := (Blk.mk (by simp only [e_psz]; omega) (by simp (disch := first | omega | (simp only [zz]; try omega; done)) only [go_sem]) (by simp (disch := first | omega | (simp only [zz]; try omega; done)) only [go_sem]) (by repeat (first | (refine ub_at ?_; simp only []; done) | apply ub_zero)) (by simp (disch := first | omega | (simp only [zz]; try omega; done)) only [go_sem]))
  have B2 := B1.step0 sp2
  simp only [e_psz] at o1 sp2 B2
  have st2 := sp.trans0 sp2
  refine effS_app (k := h.size + 1) o1 (hh.mono st2.ge) rfl rfl (by simp only [e_psz]; omega) (by simp only [List.length_nil]; omega) fun a n k u3 h3 ho3 s3 => ?_
  have B3 := B2.step s3 (by rintro ⟨o, n', c', e⟩; simp only [Value.slice.injEq, Option.some.injEq, Addr.mk.injEq] at e; omega)
  have s3' : Step S0 u h u3 h3 := st2.trans s3 (fun b hb hB => by have := o1.ge hB; omega)
  refine ⟨by simp (disch := first | omega | (simp only [zz]; try omega; done)) only [↓reduceIte, go_sem, B2.at, B3.at, B3.2.1], ?_⟩
  simp (disch := first | omega | (simp only [zz]; try omega; done)) only [↓reduceIte, go_sem]
  refine effS_call ⟨rfl, u3, _, c.2, rfl, hb.mono s3'.ge, hb1, fun u4 h4 w s4 hw => ⟨by simp (disch := first | omega | (simp only [zz]; try omega; done)) only [go_sem], ?_⟩⟩
  have ho4 := ho3.step0 s4
  simp (disch := first | omega | (simp only [zz]; try omega; done)) only [↓reduceIte, go_sem]
  refine effS_app ho4 hw rfl rfl (Nat.le_trans (Nat.succ_le_of_lt B3.1) s4.ge.sz) (by simp only [List.nil_append]; omega) fun a5 n5 k5 u5 h5 ho5 s5 => ⟨by simp (disch := first | omega | (simp only [zz]; try omega; done)) only [go_sem], ?_⟩
  have hlt3 : ∀ b, OwnB (.slice a n k) b → h.size + 1 ≤ b := fun b hb => ho4.ge hb
  have s5' : Step S0 u h u5 h5 := (s3'.trans0 s4).trans s5 (fun b hb hB => by have := ho4.ge hB; omega)
  simp only [List.nil_append] at ho5
  simp (disch := first | omega | (simp only [zz]; try omega; done)) only [↓reduceIte, go_sem]
  exact hK _ _ _ s5' ho5.isSl
end Go.Proofs.Ytkobamedfbgjbaa
end Merged
section Merged
namespace Edict
abbrev Byts := List UInt8
def sizeF (s : Byts) : Nat := s.length + (s.map UInt8.toNat).sum
def predF (s : Byts) (n : Nat) : Byts := [UInt8.ofNat (97 + sizeF s % 13), UInt8.ofNat (48 + n)]
def plainF (t : Term) : Term :=
  if t.1 % 3 = 0 then (1, t.2.1, [], t.2.2.2)
  else if t.1 % 3 = 1 then (2, 0, [UInt8.ofNat (97 + sizeF t.2.2.1 % 26)], t.2.2.2)
  else (3, 0, t.2.2.1.take 255, t.2.2.2)
def wildN (t : Term) : Byts := if sizeF t.2.2.1 % 13 = 12 then [95] else [UInt8.ofNat (65 + sizeF t.2.2.1 % 13)]
def wildF (t : Term) : Term := (4, 0, wildN t, t.2.2.2)
def freeF (vs : Strs) (t : Term) : Term :=
  if t.1 % 2 = 1 then plainF t else if wildN t ≠ [95] ∧ wildN t ∈ vs then wildF t else if 16 ≤ vs.length then plainF t else wildF t
def freeV (vs : Strs) (t : Term) : Strs :=
  if t.1 % 2 = 1 then vs else if wildN t ≠ [95] ∧ wildN t ∈ vs then vs else if 16 ≤ vs.length then vs else vs ++ [wildN t]
def freeL : Strs → List Term → List Term
  | _, [] => []
  | vs, t :: l => freeF vs t :: freeL (freeV vs t) l
def tiedF (vs : Strs) (t : Term) : Term := if t.1 % 3 ≠ 1 ∧ wildN t ≠ [95] ∧ wildN t ∈ vs then wildF t else plainF t
def atomM (b : Bool) (vs : Strs) (a : Atom) : Atom := (predF a.1 (a.2.1.take 8).length, (if b then freeL vs (a.2.1.take 8) else (a.2.1.take 8).map (tiedF vs)), a.2.2)
def atomV (b : Bool) (vs : Strs) (a : Atom) : Strs := if b then (a.2.1.take 8).foldl freeV vs else vs
def zterm : Term := (0, 0, [], 0)
def zatom : Atom := ([], [], 0)
def zlit : Literal := (0, zatom, 0, zterm, zterm, 0)
def litV (vs : Strs) (l : Literal) : Strs := if l.1 % 4 < 2 then atomV true vs l.2.1 else vs
def litP (vs : Strs) (l : Literal) : Literal := (1, atomM true vs l.2.1, 0, zterm, zterm, l.2.2.2.2.2)
def litM (ws vs : Strs) (l : Literal) : Literal :=
  if l.1 % 4 < 2 then litP vs l
  else if l.1 % 4 = 2 then (2, atomM false ws l.2.1, 0, zterm, zterm, l.2.2.2.2.2)
  else (3, zatom, 1 + l.2.2.1 % 6, tiedF ws l.2.2.2.1, tiedF ws l.2.2.2.2.1, l.2.2.2.2.2)
def lit1 (vs : Strs) (l : Literal) : Literal := if l.1 % 4 < 2 then litP vs l else zlit
def bodyL (f : Strs → Literal → Literal) : Strs → List Literal → List Literal
  | _, [] => []
  | vs, l :: r => f vs l :: bodyL f (litV vs l) r
def bodyV (ls : List Literal) : Strs := (ls.take 16).foldl litV []
def bodyM (ls : List Literal) : List Literal := bodyL (litM (bodyV ls)) [] (ls.take 16)
def clauseM (c : Clause) : Clause := (atomM false (bodyV c.2) c.1, bodyM c.2)
def rightF (p : List Clause) : List Clause := (p.take 200).map clauseM
def givenF (fs : List Atom) : List Atom := (fs.take 4096).map (atomM false [])
/-! ### Terms -/
theorem ofNat_small {n : Nat} (h : n < 256) : (UInt8.ofNat n).toNat = n := by
  rw [UInt8.toNat_ofNat']; omega
theorem small_of {n : Nat} (h1 : 97 ≤ n) (h2 : n ≤ 122) : smallB (UInt8.ofNat n).toNat = true := by
  rw [ofNat_small (by omega)]; simp [smallB]; omega
theorem big_of {n : Nat} (h1 : 65 ≤ n) (h2 : n ≤ 90) : bigB (UInt8.ofNat n).toNat = true := by
  rw [ofNat_small (by omega)]; simp [bigB]; omega
theorem ok_digit {n : Nat} (h : n ≤ 9) : okB (UInt8.ofNat (48 + n)).toNat = true := by
  rw [ofNat_small (by omega)]; simp [okB]; omega
theorem name1 {n : Nat} (h1 : 97 ≤ n) (h2 : n ≤ 122) : nameB [UInt8.ofNat n] = true := by
  have e := small_of h1 h2
  generalize UInt8.ofNat n = b at e ⊢
  simp [nameB, wordB, e]
theorem name_pred (s : Byts) {n : Nat} (h : n ≤ 8) : nameB (predF s n) = true := by
  have e := small_of (n := 97 + sizeF s % 13) (by omega) (by omega)
  have f := ok_digit (n := n) (by omega)
  unfold predF
  generalize UInt8.ofNat (97 + sizeF s % 13) = b at e ⊢
  generalize UInt8.ofNat (48 + n) = c at f ⊢
  simp [nameB, wordB, e, f]
theorem var_wild (t : Term) : varB (wildN t) = true := by
  unfold wildN; split
  · rfl
  · rename_i h
    have e := big_of (n := 65 + sizeF t.2.2.1 % 13) (by omega) (by omega)
    generalize UInt8.ofNat (65 + sizeF t.2.2.1 % 13) = b at e ⊢
    simp [varB, wordB, e]
theorem plain_kind (t : Term) : (plainF t).1 ≠ 4 := by unfold plainF; split; simp; split <;> simp
theorem plain_w (t : Term) : termW (plainF t) = 0 := by
  unfold plainF
  split
  · simp [termW, constW, validB]
  · split
    · have e := name1 (n := 97 + sizeF t.2.2.1 % 26) (by omega) (by omega)
      generalize UInt8.ofNat (97 + sizeF t.2.2.1 % 26) = b at e ⊢
      simp [termW, constW, validB, e]
    · simp [termW, constW, validB, List.length_take]; omega
theorem wild_w (t : Term) : termW (wildF t) = 0 := by simp [termW, wildF, var_wild]
theorem free_w (vs : Strs) (t : Term) : termW (freeF vs t) = 0 := by
  unfold freeF; split; exact plain_w t; split; exact wild_w t; split; exact plain_w t; exact wild_w t
def Tied (ws : Strs) (t : Term) : Prop := termW t = 0 ∧ (t.1 = 4 → t.2.2.1 ≠ [95] ∧ t.2.2.1 ∈ ws)
theorem tied_ok (ws : Strs) (t : Term) : Tied ws (tiedF ws t) := by
  unfold tiedF
  split
  · rename_i h; exact ⟨wild_w t, fun _ => h.2⟩
  · exact ⟨plain_w t, fun h => absurd h (plain_kind t)⟩
theorem tied_nil (t : Term) : (tiedF [] t).1 ≠ 4 := by
  unfold tiedF
  rw [if_neg (by simp)]; exact plain_kind t
theorem free_varT (vs : Strs) (t : Term) : varT vs (freeF vs t) = freeV vs t := by
  unfold freeF freeV
  by_cases h1 : t.1 % 2 = 1
  · rw [if_pos h1, if_pos h1]; unfold varT; rw [if_neg (fun h => plain_kind t h.1)]
  · rw [if_neg h1, if_neg h1]
    by_cases h2 : wildN t ≠ [95] ∧ wildN t ∈ vs
    · rw [if_pos h2, if_pos h2]; unfold varT wildF; rw [if_neg (fun h => h.2.elim h2.1 (fun h => h h2.2))]
    · rw [if_neg h2, if_neg h2]
      by_cases h3 : 16 ≤ vs.length
      · rw [if_pos h3, if_pos h3]; unfold varT; rw [if_neg (fun h => plain_kind t h.1)]
      · rw [if_neg h3, if_neg h3]; unfold varT wildF
        rw [if_pos ⟨rfl, if h4 : wildN t = [95] then .inl h4 else .inr fun h => h2 ⟨h4, h⟩⟩]
theorem free_vars : ∀ (ts : List Term) (vs : Strs), (freeL vs ts).foldl varT vs = ts.foldl freeV vs
  | [], _ => rfl
  | t :: l, vs => by simp only [freeL, List.foldl_cons, free_varT]; exact free_vars l _
theorem freeV_len {vs : Strs} (h : vs.length ≤ 16) (t : Term) : (freeV vs t).length ≤ 16 := by
  unfold freeV; split; exact h; split; exact h; split; exact h; simp; omega
theorem freesV_len : ∀ (ts : List Term) {vs : Strs}, vs.length ≤ 16 → (ts.foldl freeV vs).length ≤ 16
  | [], _, h => h
  | t :: l, _, h => freesV_len l (freeV_len h t)
theorem freeL_len : ∀ (ts : List Term) (vs : Strs), (freeL vs ts).length = ts.length
  | [], _ => rfl
  | t :: l, vs => by simp [freeL, freeL_len l]
theorem freeL_w : ∀ (ts : List Term) (vs : Strs), ∀ t ∈ freeL vs ts, termW t = 0
  | [], _, t, h => by simp [freeL] at h
  | x :: l, vs, t, h => by
    rcases List.mem_cons.1 h with rfl | h
    · exact free_w vs x
    · exact freeL_w l _ t h
/-! ### Atoms and literals -/
theorem firstW_zero {α : Type} {f : α → Int} : ∀ {l : List α}, (∀ x ∈ l, f x = 0) → firstW f l = 0
  | [], _ => rfl
  | x :: l, h => by
    rw [firstW, if_pos (h x (List.mem_cons_self ..))]
    exact firstW_zero fun y hy => h y (List.mem_cons_of_mem _ hy)
theorem atomM_len (b : Bool) (vs : Strs) (a : Atom) : (atomM b vs a).2.1.length = (a.2.1.take 8).length := by
  unfold atomM; cases b <;> simp [freeL_len]
theorem take8 (l : List Term) : (l.take 8).length ≤ 8 := by rw [List.length_take]; exact Nat.min_le_left _ _
theorem atomM_w (b : Bool) (vs : Strs) (a : Atom) : atomW (atomM b vs a) = 0 := by
  have h8 := take8 a.2.1
  have hl := atomM_len b vs a
  unfold atomW
  rw [show (atomM b vs a).1 = predF a.1 (a.2.1.take 8).length from rfl, name_pred _ h8, if_pos rfl, hl, if_neg (by omega)]
  refine firstW_zero fun t ht => ?_
  unfold atomM at ht
  cases b
  · simp only [Bool.false_eq_true, if_false, List.mem_map] at ht
    obtain ⟨x, -, rfl⟩ := ht
    exact (tied_ok vs x).1
  · simp only [if_true] at ht
    exact freeL_w _ _ t ht
def AtomN (a : Atom) : Prop := ∃ c : Nat, ((97 ≤ c ∧ c ≤ 109) ∨ c = 122) ∧ a.2.1.length ≤ 8 ∧ a.1 = [UInt8.ofNat c, UInt8.ofNat (48 + a.2.1.length)]
theorem atomM_n (b : Bool) (vs : Strs) (a : Atom) : AtomN (atomM b vs a) := by
  refine ⟨97 + sizeF a.1 % 13, .inl (by omega), ?_, ?_⟩
  · rw [atomM_len]; exact take8 _
  · rw [atomM_len]; rfl
theorem litM_w (ws vs : Strs) (l : Literal) : litW (litM ws vs l) = 0 := by
  unfold litM
  by_cases h1 : l.1 % 4 < 2
  · rw [if_pos h1]; simp [litW, litP, zterm, zeroB, atomM_w]
  · rw [if_neg h1]
    by_cases h2 : l.1 % 4 = 2
    · rw [if_pos h2]; simp [litW, zterm, zeroB, atomM_w]
    · rw [if_neg h2]
      have ha := (tied_ok ws l.2.2.2.1).1
      have hb := (tied_ok ws l.2.2.2.2.1).1
      have h0 : ¬ (1 + l.2.2.1 % 6 < 1 ∨ 6 < 1 + l.2.2.1 % 6) := by omega
      simp [litW, testW, zatom, ha, hb]
      omega
end Edict
end Merged
