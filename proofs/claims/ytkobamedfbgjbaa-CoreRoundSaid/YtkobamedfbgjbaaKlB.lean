/- The laws of core: the maker's terms. -/
import Derived.Test.YtkobamedfbgjbaaKlA
import Derived.Test.YtkobamedfbgjbaaKcL
namespace Go.Proofs.Ytkobamedfbgjbaa
open Go Go.Ev Edict
def MkS (k : Nat) (u : U) (h : H) (bm : Nat) (vV : Value) (vs : Strs) : Prop := Blk u h bm [vV] ∧ Own k u h vV vs ∧ ¬ OwnB vV bm ∧ k ≤ bm ∧ k ≤ h.size
def MkB (bm : Nat) (vV : Value) : Nat → Prop := fun i => i = bm ∨ OwnB vV i
theorem MkS.step {k : Nat} {S : Nat → Prop} {u u' : U} {h h' : H} {bm : Nat} {vV : Value} {vs : Strs} (M : MkS k u h bm vV vs) (s : Step S u h u' h') (hn : ∀ i, MkB bm vV i → ¬ S i) : MkS k u' h' bm vV vs :=
  ⟨M.1.step s (hn _ (.inl rfl)), M.2.1.step s (fun i hi => hn _ (.inr hi)), M.2.2.1, M.2.2.2.1, Nat.le_trans M.2.2.2.2 s.ge.sz⟩
theorem MkS.ge {k : Nat} {u : U} {h : H} {bm : Nat} {vV : Value} {vs : Strs} (M : MkS k u h bm vV vs) {i : Nat} (hi : MkB bm vV i) : k ≤ i ∧ i < h.size := by
  rcases hi with rfl | hi
  · exact ⟨M.2.2.2.1, M.1.1⟩
  · exact ⟨M.2.1.ge hi, M.2.1.lt hi⟩
def G_klTied : Ctr := fun f vs h K _ => (f = 16 ∧ C_klMod vs h K) ∨ (f = 60 ∧ C_termT wildF vs h K) ∨ (f = 61 ∧ C_termT plainF vs h K) ∨ (f = 38 ∧ C_within vs h K)
theorem G_klTied_ok : GOk Try.prog G_klTied := by
  rintro f vs h K KP (⟨rfl, hC⟩ | ⟨rfl, hC⟩ | ⟨rfl, hC⟩ | ⟨rfl, hC⟩)
  · exact klMod_ok hC
  · exact klWild_ok hC
  · exact klPlain_ok hC
  · exact klWithin_ok hC
def C_tied (vs : List Value) (h : H) (K : Value → H → Prop) : Prop := ∃ (k : Nat) (u : U) (bm : Nat) (vV : Value) (l : Strs) (t : Term), vs = [.pointer (some ⟨bm, 0, none⟩), .agg (Term.enc t).toArray] ∧ SizB t.2.2.1 ∧ MkS k u h bm vV l ∧ ∀ u' h', Step S0 u h u' h' → K (.agg (Term.enc (tiedF l t)).toArray) h'
theorem klTied_ok {vs : List Value} {h : H} {K : Value → H → Prop} {KP : List PanicEntry → H → Prop} (hC : C_tied vs h K) : HCX Try.prog 45 vs h K KP := by
  obtain ⟨k, u, bm, vV, l, t, rfl, hs, M, hK⟩ := hC
  obtain ⟨va, vc, rfl, -, -⟩ := M.2.1.sl
  refine klTied_H G_klTied G_klTied_ok _ _ ?_
  simp (disch := first | omega | (simp only [zz]; try omega; done)) only [↓reduceIte, go_sem, klTied_S, klTied_E, Term.enc]
  have sA := Step.push0 S0 u h #[.int .i64 t.1, .int .i64 t.2.1, str t.2.2.1, .int .i64 t.2.2.2] 94
  have A : Blk (ub u h.size 0) (h.push (.cells #[.int .i64 t.1, .int .i64 t.2.1, str t.2.2.1, .int .i64 t.2.2.2] 94)) h.size [.int .i64 t.1, .int .i64 t.2.1, str t.2.2.1, .int .i64 t.2.2.2] := (Blk.mk (by simp only [e_psz]; omega) (by simp (disch := first | omega | (simp only [zz]; try omega; done)) only [go_sem]) (by simp (disch := first | omega | (simp only [zz]; try omega; done)) only [go_sem]) (by repeat (first | (refine ub_at ?_; simp only []; done) | apply ub_zero)) (by simp (disch := first | omega | (simp only [zz]; try omega; done)) only [go_sem]))
  have sB := Step.push0 S0 (ub u h.size 0) (h.push (.cells #[.int .i64 t.1, .int .i64 t.2.1, str t.2.2.1, .int .i64 t.2.2.2] 94)) #[.int .i64 0, .int .i64 0, str [], .int .i64 0] 94
  have R : Blk (ub (ub u h.size 0) (h.push (.cells #[.int .i64 t.1, .int .i64 t.2.1, str t.2.2.1, .int .i64 t.2.2.2] 94)).size 0) ((h.push (.cells #[.int .i64 t.1, .int .i64 t.2.1, str t.2.2.1, .int .i64 t.2.2.2] 94)).push (.cells #[.int .i64 0, .int .i64 0, str [], .int .i64 0] 94)) (h.size + 1) [.int .i64 0, .int .i64 0, str [], .int .i64 0] := (Blk.mk (by simp only [e_psz]; omega) (by simp (disch := first | omega | (simp only [zz]; try omega; done)) only [go_sem]) (by simp (disch := first | omega | (simp only [zz]; try omega; done)) only [go_sem]) (by repeat (first | (refine ub_at ?_; simp only [e_psz]; done) | apply ub_zero)) (by simp (disch := first | omega | (simp only [zz]; try omega; done)) only [go_sem]))
  have A1 := A.step0 sB
  have st := sA.trans0 sB
  have M1 := M.step st (fun _ _ h => h)
  generalize ub (ub u h.size 0) (h.push (.cells #[.int .i64 t.1, .int .i64 t.2.1, str t.2.2.1, .int .i64 t.2.2.2] 94)).size 0 = u1 at A1 R st M1
  obtain ⟨h1, hh1⟩ : ∃ h1, h1 = (h.push (.cells #[.int .i64 t.1, .int .i64 t.2.1, str t.2.2.1, .int .i64 t.2.2.2] 94)).push (.cells #[.int .i64 0, .int .i64 0, str [], .int .i64 0] 94) := ⟨_, rfl⟩
  rw [← hh1] at A1 R st M1 ⊢
  clear hh1 sA sB A
  refine effS_call (.inr (.inl ⟨rfl, u1, t, rfl, hs, fun u2 h2 s2 => ⟨by simp (disch := first | omega | (simp only [zz]; try omega; done)) only [go_sem], ?_⟩⟩))
  have A2 := A1.step0 s2
  have R2 := R.step0 s2
  have M2 := M1.step s2 (fun _ _ h => h)
  have st2 := st.trans0 s2
  have sC := Step.push0 S0 u2 h2 #[.int .i64 4, .int .i64 0, str (wildN t), .int .i64 t.2.2.2] 94
  have W3 : Blk (ub u2 h2.size 0) (h2.push (.cells #[.int .i64 4, .int .i64 0, str (wildN t), .int .i64 t.2.2.2] 94)) h2.size [.int .i64 4, .int .i64 0, str (wildN t), .int .i64 t.2.2.2] := (Blk.mk (by simp only [e_psz]; omega) (by simp (disch := first | omega | (simp only [zz]; try omega; done)) only [go_sem]) (by simp (disch := first | omega | (simp only [zz]; try omega; done)) only [go_sem]) (by repeat (first | (refine ub_at ?_; simp only []; done) | apply ub_zero)) (by simp (disch := first | omega | (simp only [zz]; try omega; done)) only [go_sem]))
  have A3 := A2.step0 sC
  have R3 := R2.step0 sC
  have M3 := M2.step sC (fun _ _ h => h)
  have st3 := st2.trans0 sC
  have ha2 := A2.1
  have hr2 := R2.1
  have hm2 := M2.1.1
  have hV := M2.1.at 0 (by simp)
  simp only [List.getD_eq_getElem?_getD, List.getElem?_cons_zero, Option.getD_some] at hV
  simp only [Term.enc, wildF]
  -- an answer
  have fin : ∀ (u' : U) (h' : H) (x : Term), Step S0 u h u' h' → Blk u' h' (h.size + 1) [.int .i64 0, .int .i64 0, str [], .int .i64 0] → tiedF l t = x →
      hsz (hsets h' (h.size + 1) 0 [.int .i64 x.1, .int .i64 x.2.1, str x.2.2.1, .int .i64 x.2.2.2]) (h.size + 1) = 4 ∧ Go.Ev.hv (hsets h' (h.size + 1) 0 [.int .i64 x.1, .int .i64 x.2.1, str x.2.2.1, .int .i64 x.2.2.2]) (h.size + 1) 0 = .int .i64 x.1 ∧ Go.Ev.hv (hsets h' (h.size + 1) 0 [.int .i64 x.1, .int .i64 x.2.1, str x.2.2.1, .int .i64 x.2.2.2]) (h.size + 1) 1 = .int .i64 x.2.1 ∧ Go.Ev.hv (hsets h' (h.size + 1) 0 [.int .i64 x.1, .int .i64 x.2.1, str x.2.2.1, .int .i64 x.2.2.2]) (h.size + 1) 2 = str x.2.2.1 ∧ Go.Ev.hv (hsets h' (h.size + 1) 0 [.int .i64 x.1, .int .i64 x.2.1, str x.2.2.1, .int .i64 x.2.2.2]) (h.size + 1) 3 = .int .i64 x.2.2.2 ∧
      (hsets h' (h.size + 1) 0 [.int .i64 x.1, .int .i64 x.2.1, str x.2.2.1, .int .i64 x.2.2.2]).size = h'.size ∧ ∀ u3 h3, Step S0 u' (hsets h' (h.size + 1) 0 [.int .i64 x.1, .int .i64 x.2.1, str x.2.2.1, .int .i64 x.2.2.2]) u3 h3 → K (.agg #[.int .i64 x.1, .int .i64 x.2.1, str x.2.2.1, .int .i64 x.2.2.2]) h3 := fun u' h' x s R hx => by
    obtain ⟨z0, z1, z2, z3, z4⟩ := set4 (v0 := .int .i64 x.1) (v1 := .int .i64 x.2.1) (v2 := str x.2.2.1) (v3 := .int .i64 x.2.2.2) R.2.1
    refine ⟨z0, z1, z2, z3, z4, hsets_size _ _ _ _, fun u3 h3 s3 => ?_⟩
    have := hK u3 h3 ((Step.setsR (b := h.size + 1) (o := 0) (l := [.int .i64 x.1, .int .i64 x.2.1, str x.2.2.1, .int .i64 x.2.2.2]) s (.inl (Nat.le_succ _)) (by rw [R.2.2.2.1]; exact Nat.le_refl _) (by rw [R.2.1]; simp)).trans0 s3)
    rw [hx] at this
    exact this
  simp (disch := first | omega | (simp only [zz]; try omega; done)) only [↓reduceIte, go_sem, A2.at, A2.2.1]
  refine effS_call (.inl ⟨rfl, t.1, 3, rfl, by decide, by decide, ⟨by simp (disch := first | omega | (simp only [zz]; try omega; done)) only [go_sem], ?_⟩⟩)
  obtain ⟨h3, hh3⟩ : ∃ h3, h3 = h2.push (.cells #[.int .i64 4, .int .i64 0, str (wildN t), .int .i64 t.2.2.2] 94) := ⟨_, rfl⟩
  by_cases h1 : t.1 % 3 = 1
  · have hx : tiedF l t = plainF t := by unfold tiedF; rw [if_neg (fun h => h.1 h1)]
    simp (disch := first | omega | (simp only [zz]; try omega; done)) only [↓reduceIte, go_sem, eq_true h1, A2.at, A2.2.1]
    rw [← hh3] at A3 R3 M3 st3 sC ⊢
    refine effS_call (.inr (.inr (.inl ⟨rfl, ub u2 h2.size 0, t, rfl, hs, fun u4 h4 s4 => ⟨by simp (disch := first | omega | (simp only [zz]; try omega; done)) only [go_sem], ?_⟩⟩)))
    have R4 := R3.step0 s4
    have hr4 := R4.1
    simp only [Term.enc]
    obtain ⟨z0, z1, z2, z3, z4, z5, z6⟩ := fin _ h4 _ (st3.trans0 s4) R4 hx
    simp (disch := first | omega | (simp only [zz]; try omega; done)) only [↓reduceIte, go_sem, R4.2.1, R4.2.2.1, z0, z1, z2, z3, z4]
    exact z6 _ _ (.refl _ _ _)
  · by_cases h95 : wildN t = [95]
    · have hx : tiedF l t = plainF t := by unfold tiedF; rw [if_neg (fun h => h.2.1 h95)]
      simp (disch := first | omega | (simp only [zz]; try omega; done)) only [↓reduceIte, go_sem, eq_false h1, eq_true h95, A2.at, A2.2.1]
      rw [← hh3] at A3 R3 M3 st3 sC ⊢
      refine effS_call (.inr (.inr (.inl ⟨rfl, ub u2 h2.size 0, t, rfl, hs, fun u4 h4 s4 => ⟨by simp (disch := first | omega | (simp only [zz]; try omega; done)) only [go_sem], ?_⟩⟩)))
      have R4 := R3.step0 s4
      have hr4 := R4.1
      simp only [Term.enc]
      obtain ⟨z0, z1, z2, z3, z4, z5, z6⟩ := fin _ h4 _ (st3.trans0 s4) R4 hx
      simp (disch := first | omega | (simp only [zz]; try omega; done)) only [↓reduceIte, go_sem, R4.2.1, R4.2.2.1, z0, z1, z2, z3, z4]
      exact z6 _ _ (.refl _ _ _)
    · simp (disch := first | omega | (simp only [zz]; try omega; done)) only [↓reduceIte, go_sem, eq_false h1, eq_false h95, hV, M2.1.2.1]
      rw [← hh3] at A3 R3 M3 st3 sC W3 ⊢
      refine effS_call (.inr (.inr (.inr ⟨rfl, _, _, l, wildN t, rfl, M3.2.1.isSl, ⟨by simp (disch := first | omega | (simp only [zz]; try omega; done)) only [go_sem], ?_⟩⟩)))
      have ha3 := A3.1
      by_cases hin : wildN t ∈ l
      · have hx : tiedF l t = (4, 0, wildN t, t.2.2.2) := by unfold tiedF; rw [if_pos ⟨h1, h95, hin⟩]; rfl
        rw [decide_eq_true hin]
        obtain ⟨z0, z1, z2, z3, z4, z5, z6⟩ := fin _ h3 _ st3 R3 hx
        have hr3 := R3.1
        have hw3 := W3.1
        simp (disch := first | omega | (simp only [zz]; try omega; done)) only [↓reduceIte, go_sem, W3.at, W3.2.1, R3.2.1, R3.2.2.1, z0, z1, z2, z3, z4]
        exact z6 _ _ (.refl _ _ _)
      · have hx : tiedF l t = plainF t := by unfold tiedF; rw [if_neg (fun h => hin h.2.2)]
        rw [decide_eq_false hin]
        simp (disch := first | omega | (simp only [zz]; try omega; done)) only [↓reduceIte, go_sem, A3.at, A3.2.1]
        refine effS_call (.inr (.inr (.inl ⟨rfl, ub u2 h2.size 0, t, rfl, hs, fun u4 h4 s4 => ⟨by simp (disch := first | omega | (simp only [zz]; try omega; done)) only [go_sem], ?_⟩⟩)))
        have R4 := R3.step0 s4
        have hr4 := R4.1
        simp only [Term.enc]
        obtain ⟨z0, z1, z2, z3, z4, z5, z6⟩ := fin _ h4 _ (st3.trans0 s4) R4 hx
        simp (disch := first | omega | (simp only [zz]; try omega; done)) only [↓reduceIte, go_sem, R4.2.1, R4.2.2.1, z0, z1, z2, z3, z4]
        exact z6 _ _ (.refl _ _ _)
def fT : S := sS (sS (sS (sS klFree_S)))
theorem klFree_cut : klFree_S = .seq (sF klFree_S) (.seq (sF (sS klFree_S)) (.seq (sF (sS (sS klFree_S))) (.seq (sF (sS (sS (sS klFree_S)))) fT))) := rfl
def C_free (vs : List Value) (h : H) (K : Value → H → Prop) : Prop := ∃ (k : Nat) (u : U) (bm : Nat) (vV : Value) (l : Strs) (t : Term), vs = [.pointer (some ⟨bm, 0, none⟩), .agg (Term.enc t).toArray] ∧ SizB t.2.2.1 ∧ MkS k u h bm vV l ∧ l.length ≤ 16 ∧
  ∀ u' h' vV', Step (MkB bm vV) u h u' h' → MkS k u' h' bm vV' (freeV l t) → (∀ i, OwnB vV' i → OwnB vV i ∨ h.size ≤ i) → K (.agg (Term.enc (freeF l t)).toArray) h'
theorem klFree_ok {vs : List Value} {h : H} {K : Value → H → Prop} {KP : List PanicEntry → H → Prop} (hC : C_free vs h K) : HCX Try.prog 47 vs h K KP := by
  obtain ⟨k, u, bm, vV, l, t, rfl, hs, M, hl16, hK⟩ := hC
  obtain ⟨va, vc, rfl, -, -⟩ := M.2.1.sl
  refine klFree_H G_klTied G_klTied_ok _ _ ?_
  have sA := Step.push0 S0 u h #[.int .i64 t.1, .int .i64 t.2.1, str t.2.2.1, .int .i64 t.2.2.2] 94
  have A : Blk (ub u h.size 0) (h.push (.cells #[.int .i64 t.1, .int .i64 t.2.1, str t.2.2.1, .int .i64 t.2.2.2] 94)) h.size [.int .i64 t.1, .int .i64 t.2.1, str t.2.2.1, .int .i64 t.2.2.2] := (Blk.mk (by simp only [e_psz]; omega) (by simp (disch := first | omega | (simp only [zz]; try omega; done)) only [go_sem]) (by simp (disch := first | omega | (simp only [zz]; try omega; done)) only [go_sem]) (by repeat (first | (refine ub_at ?_; simp only []; done) | apply ub_zero)) (by simp (disch := first | omega | (simp only [zz]; try omega; done)) only [go_sem]))
  have sB := Step.push0 S0 (ub u h.size 0) (h.push (.cells #[.int .i64 t.1, .int .i64 t.2.1, str t.2.2.1, .int .i64 t.2.2.2] 94)) #[.int .i64 0, .int .i64 0, str [], .int .i64 0] 94
  have R : Blk (ub (ub u h.size 0) (h.push (.cells #[.int .i64 t.1, .int .i64 t.2.1, str t.2.2.1, .int .i64 t.2.2.2] 94)).size 0) ((h.push (.cells #[.int .i64 t.1, .int .i64 t.2.1, str t.2.2.1, .int .i64 t.2.2.2] 94)).push (.cells #[.int .i64 0, .int .i64 0, str [], .int .i64 0] 94)) (h.size + 1) [.int .i64 0, .int .i64 0, str [], .int .i64 0] := (Blk.mk (by simp only [e_psz]; omega) (by simp (disch := first | omega | (simp only [zz]; try omega; done)) only [go_sem]) (by simp (disch := first | omega | (simp only [zz]; try omega; done)) only [go_sem]) (by repeat (first | (refine ub_at ?_; simp only [e_psz]; done) | apply ub_zero)) (by simp (disch := first | omega | (simp only [zz]; try omega; done)) only [go_sem]))
  have A1 := A.step0 sB
  have st := sA.trans0 sB
  have M1 := M.step st (fun _ _ h => h)
  generalize ub (ub u h.size 0) (h.push (.cells #[.int .i64 t.1, .int .i64 t.2.1, str t.2.2.1, .int .i64 t.2.2.2] 94)).size 0 = u1 at A1 R st M1
  obtain ⟨h1, hh1⟩ : ∃ h1, h1 = (h.push (.cells #[.int .i64 t.1, .int .i64 t.2.1, str t.2.2.1, .int .i64 t.2.2.2] 94)).push (.cells #[.int .i64 0, .int .i64 0, str [], .int .i64 0] 94) := ⟨_, rfl⟩
  have hbl := M.1.1
  -- an answer
  have fin : ∀ (u' : U) (h' : H) (x : Term) (vV' : Value), Step (MkB bm (.slice va l.length vc)) u h u' h' → Blk u' h' (h.size + 1) [.int .i64 0, .int .i64 0, str [], .int .i64 0] → MkS k u' h' bm vV' (freeV l t) → (∀ i, OwnB vV' i → OwnB (.slice va l.length vc) i ∨ h.size + 2 ≤ i) → freeF l t = x →
      hsz (hsets h' (h.size + 1) 0 [.int .i64 x.1, .int .i64 x.2.1, str x.2.2.1, .int .i64 x.2.2.2]) (h.size + 1) = 4 ∧ Go.Ev.hv (hsets h' (h.size + 1) 0 [.int .i64 x.1, .int .i64 x.2.1, str x.2.2.1, .int .i64 x.2.2.2]) (h.size + 1) 0 = .int .i64 x.1 ∧ Go.Ev.hv (hsets h' (h.size + 1) 0 [.int .i64 x.1, .int .i64 x.2.1, str x.2.2.1, .int .i64 x.2.2.2]) (h.size + 1) 1 = .int .i64 x.2.1 ∧ Go.Ev.hv (hsets h' (h.size + 1) 0 [.int .i64 x.1, .int .i64 x.2.1, str x.2.2.1, .int .i64 x.2.2.2]) (h.size + 1) 2 = str x.2.2.1 ∧ Go.Ev.hv (hsets h' (h.size + 1) 0 [.int .i64 x.1, .int .i64 x.2.1, str x.2.2.1, .int .i64 x.2.2.2]) (h.size + 1) 3 = .int .i64 x.2.2.2 ∧
      K (.agg #[.int .i64 x.1, .int .i64 x.2.1, str x.2.2.1, .int .i64 x.2.2.2]) (hsets h' (h.size + 1) 0 [.int .i64 x.1, .int .i64 x.2.1, str x.2.2.1, .int .i64 x.2.2.2]) := fun u' h' x vV' s R M' hb hx => by
    obtain ⟨z0, z1, z2, z3, z4⟩ := set4 (v0 := .int .i64 x.1) (v1 := .int .i64 x.2.1) (v2 := str x.2.2.1) (v3 := .int .i64 x.2.2.2) R.2.1
    have sw : Step (fun j => j = h.size + 1) u' h' u' (hsets h' (h.size + 1) 0 [.int .i64 x.1, .int .i64 x.2.1, str x.2.2.1, .int .i64 x.2.2.2]) := Step.sets u' h' _ rfl (by rw [R.2.2.2.1]; exact Nat.le_refl _) (by rw [R.2.1]; simp)
    have := hK u' _ vV' (s.trans sw (fun j hj e => by have e : j = h.size + 1 := e; omega)) (M'.step sw (fun j hj e => by
      have e : j = h.size + 1 := e
      rcases hj with rfl | hj
      · omega
      · rcases hb j hj with hj | hj
        · have := M.2.1.lt hj; omega
        · omega)) (fun i hi => (hb i hi).imp id fun h => by omega)
    rw [hx] at this
    exact ⟨z0, z1, z2, z3, z4, this⟩
  rw [klFree_cut]
  simp (disch := first | omega | (simp only [zz]; try omega; done)) only [↓reduceIte, go_sem, sF, sS, klFree_S, Term.enc]
  by_cases h1' : t.1 % 2 = 1
  · have hx : freeF l t = plainF t := by unfold freeF; rw [if_pos h1']
    have hV : freeV l t = l := by unfold freeV; rw [if_pos h1']
    refine effS_call (.inl ⟨rfl, t.1, 2, rfl, by decide, by decide, ⟨by simp (disch := first | omega | (simp only [zz]; try omega; done)) only [go_sem], ?_⟩⟩)
    simp (disch := first | omega | (simp only [zz]; try omega; done)) only [↓reduceIte, go_sem, eq_true h1']
    rw [← hh1] at A1 R st M1 ⊢
    refine effS_call (.inr (.inr (.inl ⟨rfl, u1, t, rfl, hs, fun u4 h4 s4 => ⟨by simp (disch := first | omega | (simp only [zz]; try omega; done)) only [go_sem], ?_⟩⟩)))
    have R4 := R.step0 s4
    have hr4 := R4.1
    simp only [Term.enc]
    have M4 : MkS k u4 h4 bm (.slice va l.length vc) (freeV l t) := by rw [hV]; exact M1.step s4 (fun _ _ h => h)
    obtain ⟨z0, z1, z2, z3, z4, z5⟩ := fin _ h4 _ _ ((st.trans0 s4).mono fun _ _ h => h.elim) R4 M4 (fun _ h => .inl h) hx
    simp (disch := first | omega | (simp only [zz]; try omega; done)) only [↓reduceIte, go_sem, klFree_E, R4.2.1, R4.2.2.1, z0, z1, z2, z3, z4]
    exact z5
  · refine effS_call (.inl ⟨rfl, t.1, 2, rfl, by decide, by decide, ⟨by simp (disch := first | omega | (simp only [zz]; try omega; done)) only [go_sem], ?_⟩⟩)
    simp (disch := first | omega | (simp only [zz]; try omega; done)) only [↓reduceIte, go_sem, eq_false h1']
    rw [← hh1] at A1 R st M1 ⊢
    clear hh1 sA sB A
    refine effS_call (.inr (.inl ⟨rfl, u1, t, rfl, hs, fun u2 h2 s2 => ⟨by simp (disch := first | omega | (simp only [zz]; try omega; done)) only [go_sem], ?_⟩⟩))
    have A2 := A1.step0 s2
    have R2 := R.step0 s2
    have M2 := M1.step s2 (fun _ _ h => h)
    have st2 := st.trans0 s2
    have sC := Step.push0 S0 u2 h2 #[.int .i64 4, .int .i64 0, str (wildN t), .int .i64 t.2.2.2] 94
    have W3 : Blk (ub u2 h2.size 0) (h2.push (.cells #[.int .i64 4, .int .i64 0, str (wildN t), .int .i64 t.2.2.2] 94)) h2.size [.int .i64 4, .int .i64 0, str (wildN t), .int .i64 t.2.2.2] := (Blk.mk (by simp only [e_psz]; omega) (by simp (disch := first | omega | (simp only [zz]; try omega; done)) only [go_sem]) (by simp (disch := first | omega | (simp only [zz]; try omega; done)) only [go_sem]) (by repeat (first | (refine ub_at ?_; simp only []; done) | apply ub_zero)) (by simp (disch := first | omega | (simp only [zz]; try omega; done)) only [go_sem]))
    have A3 := A2.step0 sC
    have R3 := R2.step0 sC
    have M3 := M2.step sC (fun _ _ h => h)
    have st3 := st2.trans0 sC
    have ha2 := A2.1
    have hr2 := R2.1
    have hm2 := M2.1.1
    have hV := M2.1.at 0 (by simp)
    simp only [List.getD_eq_getElem?_getD, List.getElem?_cons_zero, Option.getD_some] at hV
    simp only [Term.enc, wildF]
    obtain ⟨h3, hh3⟩ : ∃ h3, h3 = h2.push (.cells #[.int .i64 4, .int .i64 0, str (wildN t), .int .i64 t.2.2.2] 94) := ⟨_, rfl⟩
    have hV3 := M3.1.at 0 (by simp)
    simp only [List.getD_eq_getElem?_getD, List.getElem?_cons_zero, Option.getD_some] at hV3
    obtain ⟨pw, hpw⟩ : ∃ pw, pw = h2.size := ⟨_, rfl⟩
    by_cases hB : wildN t ≠ [95] ∧ wildN t ∈ l
    · have hx : freeF l t = (4, 0, wildN t, t.2.2.2) := by unfold freeF; rw [if_neg h1', if_pos hB]; rfl
      have hW : freeV l t = l := by unfold freeV; rw [if_neg h1', if_pos hB]
      simp (disch := first | omega | (simp only [zz]; try omega; done)) only [↓reduceIte, go_sem, eq_false hB.1, hV, M2.1.2.1]
      rw [← hh3] at A3 R3 M3 st3 sC W3 ⊢
      refine effS_call (.inr (.inr (.inr ⟨rfl, _, _, l, wildN t, rfl, M3.2.1.isSl, ⟨by simp (disch := first | omega | (simp only [zz]; try omega; done)) only [go_sem], ?_⟩⟩)))
      rw [decide_eq_true hB.2]
      have M3 : MkS k (ub u2 h2.size 0) h3 bm (.slice va l.length vc) (freeV l t) := by rw [hW]; exact M3
      obtain ⟨z0, z1, z2, z3, z4, z5⟩ := fin _ h3 _ _ (st3.mono fun _ _ h => h.elim) R3 M3 (fun _ h => .inl h) hx
      have hr3 := R3.1
      have hw3 := W3.1
      simp (disch := first | omega | (simp only [zz]; try omega; done)) only [↓reduceIte, go_sem, klFree_E, W3.at, W3.2.1, R3.2.1, R3.2.2.1, z0, z1, z2, z3, z4]
      exact z5
    · -- behind the test
      have go : ∀ (σ : Env), σ 0 = .pointer (some ⟨bm, 0, none⟩) → σ 3 = .pointer (some ⟨h.size, 0, none⟩) → σ 4 = .pointer (some ⟨h.size + 1, 0, none⟩) → σ 5 = .pointer (some ⟨pw, 0, none⟩) → wpS G_klTied fT (retQ klFree_E (callK K KP)) σ h3 := fun σ e0 e3 e4 e5 => by
        rw [← hh3] at A3 R3 M3 st3 sC W3 hV3
        have W3 : Blk (ub u2 h2.size 0) h3 pw [.int .i64 4, .int .i64 0, str (wildN t), .int .i64 t.2.2.2] := by rw [hpw]; exact W3
        have ha3 := A3.1
        have hr3 := R3.1
        have hm3 := M3.1.1
        have hw3 := W3.1
        by_cases h16 : 16 ≤ l.length
        · have hx : freeF l t = plainF t := by unfold freeF; rw [if_neg h1', if_neg hB, if_pos h16]
          have hW : freeV l t = l := by unfold freeV; rw [if_neg h1', if_neg hB, if_pos h16]
          simp (disch := first | omega | (simp only [zz]; try omega; done)) only [↓reduceIte, go_sem, fT, sS, klFree_S, klFree_E, e0, e3, hV3, M3.1.2.1, eq_true (show (16 : Int) ≤ l.length by omega), A3.at, A3.2.1]
          refine effS_call (.inr (.inr (.inl ⟨rfl, ub u2 h2.size 0, t, rfl, hs, fun u4 h4 s4 => ⟨by simp (disch := first | omega | (simp only [zz]; try omega; done)) only [go_sem], ?_⟩⟩)))
          have R4 := R3.step0 s4
          have hr4 := R4.1
          simp only [Term.enc]
          have M4 : MkS k u4 h4 bm (.slice va l.length vc) (freeV l t) := by rw [hW]; exact M3.step s4 (fun _ _ h => h)
          obtain ⟨z0, z1, z2, z3, z4, z5⟩ := fin _ h4 _ _ ((st3.trans0 s4).mono fun _ _ h => h.elim) R4 M4 (fun _ h => .inl h) hx
          simp (disch := first | omega | (simp only [zz]; try omega; done)) only [↓reduceIte, go_sem, e4, R4.2.1, R4.2.2.1, z0, z1, z2, z3, z4]
          exact z5
        · have hx : freeF l t = (4, 0, wildN t, t.2.2.2) := by unfold freeF; rw [if_neg h1', if_neg hB, if_neg h16]; rfl
          have hW : freeV l t = l ++ [wildN t] := by unfold freeV; rw [if_neg h1', if_neg hB, if_neg h16]
          simp (disch := first | omega | (simp only [zz]; try omega; done)) only [↓reduceIte, go_sem, fT, sS, klFree_S, klFree_E, e0, e5, hV3, M3.1.2.1, eq_false (show ¬ (16 : Int) ≤ l.length by omega), W3.at, W3.2.1]
          refine effS_app1o rfl M3.2.1 (x := wildN t) (cs := [str (wildN t)]) (by rw [rep_str]) rfl rfl M3.2.2.2.2 (by omega) fun a6 n6 c6 u6 h6 o6 s6 b6 => ⟨by simp (disch := first | omega | (simp only [zz]; try omega; done)) only [go_sem], ?_⟩
          have nB : ¬ OwnB (.slice va l.length vc) bm := M3.2.2.1
          have X6 := M3.1.step s6 nB
          have R6 := R3.step s6 (fun hj => by have := M.2.1.lt hj; omega)
          have W6 := W3.step s6 (fun hj => by have := M.2.1.lt hj; have := st2.ge.sz; omega)
          have nB6 : ¬ OwnB (.slice a6 n6 c6) bm := fun hj => (b6 _ hj).elim nB (fun h => by omega)
          have sw : Step (fun j => j = bm) u6 h6 u6 (hset h6 bm 0 (.slice a6 n6 c6)) := Step.set u6 h6 _ rfl (by rw [X6.2.2.2.1]; exact Nat.le_refl _)
          have X7 := X6.set (i := 0) (v := .slice a6 n6 c6) (by simp)
          have o7 := o6.step sw (fun j hj e => nB6 (by have e : j = bm := e; rw [← e]; exact hj))
          have hwbm : pw ≠ bm := fun e => by have := st2.ge.sz; omega
          have R7 := R6.step sw (fun e => by have e : h.size + 1 = bm := e; omega)
          have W7 := W6.step sw (fun e => hwbm e)
          have hm6 := X6.1
          have hw6 := W6.1
          have hr7 := R7.1
          have hw7 := W7.1
          have st7 : Step (MkB bm (.slice va l.length vc)) u h u6 (hset h6 bm 0 (.slice a6 n6 c6)) := ((st3.mono (S' := MkB bm (.slice va l.length vc)) fun _ _ h => h.elim).trans s6 (fun j _ hj => .inr hj)).trans sw (fun j _ e => .inl e)
          have M7 : MkS k u6 (hset h6 bm 0 (.slice a6 n6 c6)) bm (.slice a6 n6 c6) (freeV l t) := ⟨X7, by rw [hW]; exact o7, nB6, M3.2.2.2.1, Nat.le_trans M3.2.2.2.2 (Nat.le_trans s6.ge.sz sw.ge.sz)⟩
          obtain ⟨z0, z1, z2, z3, z4, z5⟩ := fin _ _ _ _ st7 R7 M7 (fun j hj => (b6 j hj).imp id fun h => by have := R3.1; omega) hx
          simp (disch := first | omega | (simp only [zz]; try omega; done)) only [↓reduceIte, go_sem, e0, e4, e5, X6.2.1, X6.2.2.1, W7.at, W7.2.1, R7.2.1, R7.2.2.1, z0, z1, z2, z3, z4]
          exact z5
      by_cases h95 : wildN t = [95]
      · simp (disch := first | omega | (simp only [zz]; try omega; done)) only [↓reduceIte, go_sem, eq_true h95]
        rw [← hh3]
        exact go _ (by simp [upd]) (by simp [upd]) (by simp [upd]) (by simp [upd, hpw])
      · have hin : wildN t ∉ l := fun h => hB ⟨h95, h⟩
        simp (disch := first | omega | (simp only [zz]; try omega; done)) only [↓reduceIte, go_sem, eq_false h95, hV, M2.1.2.1]
        rw [← hh3]
        rw [← hh3] at M3
        refine effS_call (.inr (.inr (.inr ⟨rfl, _, _, l, wildN t, rfl, M3.2.1.isSl, ⟨by simp (disch := first | omega | (simp only [zz]; try omega; done)) only [go_sem], ?_⟩⟩)))
        rw [decide_eq_false hin]
        simp (disch := first | omega | (simp only [zz]; try omega; done)) only [↓reduceIte, go_sem]
        exact go _ (by simp [upd]) (by simp [upd]) (by simp [upd]) (by simp [upd, hpw])
end Go.Proofs.Ytkobamedfbgjbaa
