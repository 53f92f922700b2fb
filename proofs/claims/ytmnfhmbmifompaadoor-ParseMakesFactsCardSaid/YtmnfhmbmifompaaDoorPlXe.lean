/- The maker's small functions, walked: gap, put, long, nameOf, varOf, textOf, intOf, opOf. -/
import Derived.Test.YtmnfhmbmifompaaDoorPqR
import Derived.Test.YtmnfhmbmifompaaDoorPlR
import Derived.Test.YtmnfhmbmifompaaDoorPlC
import Derived.Test.YtmnfhmbmifompaaDoorPlXb
import Derived.Test.YtmnfhmbmifompaaDoorPlX1
namespace Go.Proofs.YtmnfhmbmifompaaDoor
open Go Go.Ev Edict
def G_mod : Ctr := fun f vs h K _ => f = 45 ∧ C_mod vs h K
theorem G_mod_ok : GOk Tryd.prog G_mod := by
  rintro f vs h K KP ⟨rfl, hC⟩; exact plMod_ok hC
def MkB (u : U) (h : H) (b : Nat) (gs : List Int) (gv : Value) (st : MS) : Prop := Blk u h b [str st.1, gv, .int .i64 (st.2 : Nat)] ∧ IsSl u h gv gs ∧ st.1.length ≤ 10000000 ∧ st.2 ≤ 1000000
theorem MkB.step {S : Nat → Prop} {u u' : U} {h h' : H} {b : Nat} {gs : List Int} {gv : Value} {st : MS} (k : MkB u h b gs gv st) (s : Step S u h u' h') (hn : ¬ S b) : MkB u' h' b gs gv st := ⟨k.1.step s hn, k.2.1.mono s.ge, k.2.2⟩
theorem MkB.step0 {u u' : U} {h h' : H} {b : Nat} {gs : List Int} {gv : Value} {st : MS} (k : MkB u h b gs gv st) (s : Step S0 u h u' h') : MkB u' h' b gs gv st := k.step s (fun q => q)
def C_gap (vs : List Value) (h : H) (K : Value → H → Prop) : Prop := ∃ (u : U) (b : Nat) (gs : List Int) (gv : Value) (st : MS), vs = [.pointer (some ⟨b, 0, none⟩)] ∧ MkB u h b gs gv st ∧ ∀ h', Step (fun c => c = b) u h u h' → Blk u h' b [str st.1, gv, .int .i64 (nxtK gs st.2 : Nat)] → K (str (gapK gs st.2)) h'
theorem plGap_ok {vs : List Value} {h : H} {K : Value → H → Prop} {KP : List PanicEntry → H → Prop} (hC : C_gap vs h K) : HCX Tryd.prog 66 vs h K KP := by
  obtain ⟨u, b, gs, gv, ⟨x, k⟩, rfl, ⟨B, ig, hx, hk⟩, hK⟩ := hC
  simp only at B hx hk hK
  have hm := mlen'
  obtain ⟨ga, gc, rfl, m1, m2⟩ := ig.sl
  have B1 := B.1
  refine plGap_H G_mod G_mod_ok _ ?_
  by_cases h0 : gs.length = 0
  · have e1 : gapK gs k = [] := by unfold gapK; rw [if_pos h0]
    have e2 : nxtK gs k = k := by unfold nxtK; rw [if_pos h0]
    rw [e1, e2] at hK
    simp (disch := first | omega | (simp only [e_ssz, e_psz, e_hszs, List.length_cons, List.length_nil]; try omega; done)) only [↓reduceIte, go_sem, plGap_S, plGap_E, B.at, B.2.1, eq_true (show ((gs.length : Nat) : Int) = 0 by omega)]
    exact hK _ (Step.refl _ _ _) B
  have hlt : k % gs.length < gs.length := Nat.mod_lt _ (by omega)
  obtain ⟨g, hg⟩ : ∃ g, gs[k % gs.length]? = some g := ⟨gs[k % gs.length], by simp [hlt]⟩
  have e1 : gapK gs k = gapB g := by
    unfold gapK
    rw [if_neg h0, List.getD_eq_getElem?_getD, hg]
    rfl
  have e2 : nxtK gs k = k + 1 := by unfold nxtK; rw [if_neg h0]
  rw [e1, e2] at hK
  obtain ⟨pb, po, rfl, hpb, hpu, hpz, hpr⟩ := ig.row (k % gs.length) g hg
  simp only [rep_int, sz_int, hvs_1, List.cons.injEq, and_true] at hpr hpu hpz
  have hrem : ((k : Nat) : Int).tmod ((gs.length : Nat) : Int) = ((k % gs.length : Nat) : Int) := by rw [Int.tmod_eq_emod_of_nonneg (by omega)]; omega
  have W := B.set (i := 2) (v := .int .i64 ((k + 1 : Nat) : Int)) (by simp)
  have s1 := Step.set (S := fun c => c = b) u h (b := b) (o := 2) (.int .i64 ((k + 1 : Nat) : Int)) rfl (by rw [B.2.2.2.1]; exact Nat.zero_le _)
  obtain ⟨h1, hh1⟩ : ∃ h1, h1 = hset h b 2 (.int .i64 ((k + 1 : Nat) : Int)) := ⟨_, rfl⟩
  rw [← hh1] at W s1
  simp only [List.set_cons_succ, List.set_cons_zero] at W
  have hK1 := hK h1 s1 W
  have hh1' : h1 = hset h b 2 (.int .i64 (((k : Nat) : Int) + 1)) := by rw [hh1]; rfl
  clear hK
  simp (disch := first | omega | (simp only [e_ssz, e_psz, e_hszs, List.length_cons, List.length_nil]; try omega; done)) only [↓reduceIte, go_sem, plGap_S, plGap_E, B.at, B.2.1, B.2.2.1, eq_false (show ¬ ((gs.length : Nat) : Int) = 0 by omega), hrem, hlt, hpr, ← hh1']
  refine effS_call ⟨rfl, g, 8, rfl, by omega, by simp (disch := first | omega | (simp only [e_ssz, e_psz, e_hszs, List.length_cons, List.length_nil]; try omega; done)) only [go_sem], ?_⟩
  obtain ⟨r, hr⟩ : ∃ r, r = g % 8 := ⟨_, rfl⟩
  have h8 : r = 0 ∨ r = 1 ∨ r = 2 ∨ r = 3 ∨ r = 4 ∨ r = 5 ∨ r = 6 ∨ r = 7 := by omega
  unfold gapB at hK1
  rw [← hr] at hK1 ⊢
  clear hr
  rcases h8 with rfl | rfl | rfl | rfl | rfl | rfl | rfl | rfl
  all_goals
    simp only [Int.reduceEq, if_true, if_false] at hK1
    simp (disch := first | omega | (simp only [e_ssz, e_psz, e_hszs, List.length_cons, List.length_nil]; try omega; done)) only [↓reduceIte, go_sem]
    exact hK1
def C_put (vs : List Value) (h : H) (K : Value → H → Prop) : Prop := ∃ (u : U) (b : Nat) (gs : List Int) (gv : Value) (st : MS) (s : List UInt8), vs = [.pointer (some ⟨b, 0, none⟩), str s] ∧ MkB u h b gs gv st ∧ s.length ≤ 100 ∧ ∀ h', Step (fun c => c = b) u h u h' → Blk u h' b [str (putS gs st s).1, gv, .int .i64 ((putS gs st s).2 : Nat)] → K (.int .i64 (offS gs st)) h'
def G_put : Ctr := fun f vs h K _ => f = 66 ∧ C_gap vs h K
theorem G_put_ok : GOk Tryd.prog G_put := by
  rintro f vs h K KP ⟨rfl, hC⟩; exact plGap_ok hC
theorem plPut_ok {vs : List Value} {h : H} {K : Value → H → Prop} {KP : List PanicEntry → H → Prop} (hC : C_put vs h K) : HCX Tryd.prog 26 vs h K KP := by
  obtain ⟨u, b, gs, gv, ⟨x, k⟩, s, rfl, hMk, hs, hK⟩ := hC
  have hMk' := hMk
  obtain ⟨B, ig, hx, hk⟩ := hMk'
  simp only [putS, offS] at B hx hk hK
  have hm := mlen'
  have B1 := B.1
  have hgl := gapK_len gs k
  refine plPut_H G_put G_put_ok _ _ ?_
  simp (disch := first | omega | (simp only [e_ssz, e_psz, e_hszs, List.length_cons, List.length_nil]; try omega; done)) only [↓reduceIte, go_sem, plPut_S, plPut_E, B.at, B.2.1]
  refine effS_call ⟨rfl, u, b, gs, gv, (x, k), rfl, hMk, fun h1 s1 W1 => ⟨by simp (disch := first | omega | (simp only [e_ssz, e_psz, e_hszs, List.length_cons, List.length_nil]; try omega; done)) only [↓reduceIte, go_sem, W1.2.1, W1.at, B.at], ?_⟩⟩
  simp only at W1
  obtain ⟨g, hg⟩ : ∃ g, g = gapK gs k := ⟨_, rfl⟩
  rw [← hg] at hK hgl ⊢
  have W11 := W1.1
  have W2 := W1.set (i := 0) (v := str (x ++ g)) (by simp)
  have s2 := Step.set (S := fun c => c = b) u h1 (b := b) (o := 0) (str (x ++ g)) rfl (by rw [W1.2.2.2.1]; exact Nat.zero_le _)
  obtain ⟨h2, hh2⟩ : ∃ h2, h2 = hset h1 b 0 (str (x ++ g)) := ⟨_, rfl⟩
  rw [← hh2] at W2 s2
  simp only [List.set_cons_zero] at W2
  have W21 := W2.1
  have W3 := W2.set (i := 0) (v := str (x ++ g ++ s)) (by simp)
  have s3 := Step.set (S := fun c => c = b) u h2 (b := b) (o := 0) (str (x ++ g ++ s)) rfl (by rw [W2.2.2.2.1]; exact Nat.zero_le _)
  obtain ⟨h3, hh3⟩ : ∃ h3, h3 = hset h2 b 0 (str (x ++ g ++ s)) := ⟨_, rfl⟩
  rw [← hh3] at W3 s3
  simp only [List.set_cons_zero] at W3
  have hlen : (x ++ g).length ≤ 10000018 := by rw [List.length_append]; omega
  have hK3 := hK h3 ((s1.trans s2 (fun c _ q => q)).trans s3 (fun c _ q => q)) W3
  simp (disch := first | omega | (simp only [e_ssz, e_psz, e_hszs, List.length_cons, List.length_nil]; try omega; done)) only [↓reduceIte, go_sem, W1.2.1, W1.2.2.1, ← hh2, W2.at, W2.2.1, W2.2.2.1, ← hh3]
  rw [List.length_append] at hK3 hlen
  exact ⟨by omega, by omega, hK3⟩
def C_long (vs : List Value) (h : H) (K : Value → H → Prop) : Prop := ∃ (c : UInt8), vs = [str [c]] ∧ K (str (longS c)) h
theorem plLong_ok {vs : List Value} {h : H} {K : Value → H → Prop} {KP : List PanicEntry → H → Prop} (hC : C_long vs h K) : HCX Tryd.prog 93 vs h K KP := by
  obtain ⟨c, rfl, hK⟩ := hC
  refine plLong_H (fun _ _ _ _ _ => False) (fun _ _ _ _ _ h => h.elim) _ ?_
  simp (disch := first | omega | (simp only [e_ssz, e_psz, e_hszs, List.length_cons, List.length_nil]; try omega; done)) only [↓reduceIte, go_sem, plLong_S, plLong_E]
  obtain ⟨I, hI⟩ : ∃ I : Nat → Env → H → Prop, I = fun k σ h' => σ 3 = str (c :: List.replicate k 95) ∧ k ≤ 63 ∧ h' = h := ⟨_, rfl⟩
  refine wpS_loop I (fun j => 63 - j) 0 (by rw [hI]; exact ⟨by simp [upd], by omega, rfl⟩) ?_
  intro k σ h' hy
  rw [hI] at hy
  obtain ⟨e3, hk, rfl⟩ := hy
  obtain ⟨acc, hacc⟩ : ∃ acc, acc = c :: List.replicate k 95 := ⟨_, rfl⟩
  have hal : acc.length = k + 1 := by rw [hacc]; simp
  rw [← hacc] at e3
  by_cases hlt : k < 63
  · simp (disch := first | omega | (simp only [e_ssz, e_psz, e_hszs, List.length_cons, List.length_nil]; try omega; done)) only [↓reduceIte, go_sem, plLong_L1, e3, eq_true (show ((acc.length : Nat) : Int) < 64 by omega)]
    refine ⟨by omega, k + 1, ?_, by omega⟩
    rw [hI]
    exact ⟨by simp [upd, hacc, List.replicate_succ'], by omega, rfl⟩
  · obtain rfl : k = 63 := by omega
    simp (disch := first | omega | (simp only [e_ssz, e_psz, e_hszs, List.length_cons, List.length_nil]; try omega; done)) only [↓reduceIte, go_sem, plLong_L1, e3, eq_false (show ¬ ((acc.length : Nat) : Int) < 64 by omega)]
    rw [hacc]
    exact hK
def G_nm : Ctr := fun f vs h K _ => (f = 45 ∧ C_mod vs h K) ∨ (f = 93 ∧ C_long vs h K) ∨ (f = 94 ∧ C_itoa vs h K)
theorem G_nm_ok : GOk Tryd.prog G_nm := by
  rintro f vs h K KP (⟨rfl, hC⟩ | ⟨rfl, hC⟩ | ⟨rfl, hC⟩)
  · exact plMod_ok hC
  · exact plLong_ok hC
  · exact itoa_ok hC
theorem itoa_mod (n : Int) : Go.Lib.itoa (n % 1000) = numS n := by
  have h1 : ¬ n % 1000 < 0 := by omega
  unfold Go.Lib.itoa numS
  rw [if_neg h1]
  try (congr 1; omega)
def C_nmS (S : Int → List UInt8) (vs : List Value) (h : H) (K : Value → H → Prop) : Prop := ∃ (u : U) (n : Int), vs = [.int .i64 n] ∧ PowG u h ∧ ∀ u' h', Step S0 u h u' h' → K (str (S n)) h'
theorem plNameOf_ok {vs : List Value} {h : H} {K : Value → H → Prop} {KP : List PanicEntry → H → Prop} (hC : C_nmS nameS vs h K) : HCX Tryd.prog 64 vs h K KP := by
  obtain ⟨u, n, rfl, hP, hK⟩ := hC
  refine plNameOf_H G_nm G_nm_ok _ ?_
  simp (disch := first | omega | (simp only [e_ssz, e_psz, e_hszs, List.length_cons, List.length_nil]; try omega; done)) only [↓reduceIte, go_sem, plNameOf_S, plNameOf_E]
  refine effS_call (.inl ⟨rfl, n, 12, rfl, by omega, by simp (disch := first | omega | (simp only [e_ssz, e_psz, e_hszs, List.length_cons, List.length_nil]; try omega; done)) only [go_sem], ?_⟩)
  obtain ⟨r, hr⟩ : ∃ r, r = n % 12 := ⟨_, rfl⟩
  have h0 := numS_ok n
  unfold nameS at hK
  rw [← hr] at hK ⊢
  have h8 : r = 0 ∨ r = 1 ∨ r = 2 ∨ r = 3 ∨ r = 4 ∨ r = 5 ∨ r = 6 ∨ r = 7 ∨ 8 ≤ r := by omega
  clear hr
  rcases h8 with rfl | rfl | rfl | rfl | rfl | rfl | rfl | rfl | h8
  · simp only [Int.reduceEq, if_true, if_false] at hK
    simp (disch := first | omega | (simp only [e_ssz, e_psz, e_hszs, List.length_cons, List.length_nil]; try omega; done)) only [↓reduceIte, go_sem]
    exact hK _ _ (Step.refl _ _ _)
  · simp only [Int.reduceEq, if_true, if_false] at hK
    simp (disch := first | omega | (simp only [e_ssz, e_psz, e_hszs, List.length_cons, List.length_nil]; try omega; done)) only [↓reduceIte, go_sem]
    exact hK _ _ (Step.refl _ _ _)
  · simp only [Int.reduceEq, if_true, if_false] at hK
    simp (disch := first | omega | (simp only [e_ssz, e_psz, e_hszs, List.length_cons, List.length_nil]; try omega; done)) only [↓reduceIte, go_sem]
    exact hK _ _ (Step.refl _ _ _)
  · simp only [Int.reduceEq, if_true, if_false] at hK
    simp (disch := first | omega | (simp only [e_ssz, e_psz, e_hszs, List.length_cons, List.length_nil]; try omega; done)) only [↓reduceIte, go_sem]
    exact hK _ _ (Step.refl _ _ _)
  · simp only [Int.reduceEq, if_true, if_false] at hK
    simp (disch := first | omega | (simp only [e_ssz, e_psz, e_hszs, List.length_cons, List.length_nil]; try omega; done)) only [↓reduceIte, go_sem]
    exact hK _ _ (Step.refl _ _ _)
  · simp only [Int.reduceEq, if_true, if_false] at hK
    simp (disch := first | omega | (simp only [e_ssz, e_psz, e_hszs, List.length_cons, List.length_nil]; try omega; done)) only [↓reduceIte, go_sem]
    exact hK _ _ (Step.refl _ _ _)
  · simp only [Int.reduceEq, if_true, if_false] at hK
    simp (disch := first | omega | (simp only [e_ssz, e_psz, e_hszs, List.length_cons, List.length_nil]; try omega; done)) only [↓reduceIte, go_sem]
    exact hK _ _ (Step.refl _ _ _)
  · simp only [Int.reduceEq, if_true, if_false] at hK
    simp (disch := first | omega | (simp only [e_ssz, e_psz, e_hszs, List.length_cons, List.length_nil]; try omega; done)) only [↓reduceIte, go_sem]
    refine effS_call (.inr (.inl ⟨rfl, _, rfl, by simp (disch := first | omega | (simp only [e_ssz, e_psz, e_hszs, List.length_cons, List.length_nil]; try omega; done)) only [go_sem], ?_⟩))
    simp (disch := first | omega | (simp only [e_ssz, e_psz, e_hszs, List.length_cons, List.length_nil]; try omega; done)) only [↓reduceIte, go_sem]
    exact hK _ _ (Step.refl _ _ _)
  · simp only [eq_false (show ¬ r = 0 by omega), eq_false (show ¬ r = 1 by omega), eq_false (show ¬ r = 2 by omega), eq_false (show ¬ r = 3 by omega), eq_false (show ¬ r = 4 by omega), eq_false (show ¬ r = 5 by omega), eq_false (show ¬ r = 6 by omega), eq_false (show ¬ r = 7 by omega), if_false] at hK
    simp (disch := first | omega | (simp only [e_ssz, e_psz, e_hszs, List.length_cons, List.length_nil]; try omega; done)) only [↓reduceIte, go_sem, eq_false (show ¬ r = 0 by omega), eq_false (show ¬ r = 1 by omega), eq_false (show ¬ r = 2 by omega), eq_false (show ¬ r = 3 by omega), eq_false (show ¬ r = 4 by omega), eq_false (show ¬ r = 5 by omega), eq_false (show ¬ r = 6 by omega), eq_false (show ¬ r = 7 by omega)]
    refine effS_call (.inl ⟨rfl, n, 1000, rfl, by omega, by simp (disch := first | omega | (simp only [e_ssz, e_psz, e_hszs, List.length_cons, List.length_nil]; try omega; done)) only [go_sem], ?_⟩)
    simp (disch := first | omega | (simp only [e_ssz, e_psz, e_hszs, List.length_cons, List.length_nil]; try omega; done)) only [↓reduceIte, go_sem]
    refine effS_call (.inr (.inr ⟨rfl, u, n % 1000, rfl, by omega, hP, fun u2 h2 s2 => ⟨by simp (disch := first | omega | (simp only [e_ssz, e_psz, e_hszs, List.length_cons, List.length_nil]; try omega; done)) only [go_sem], ?_⟩⟩))
    rw [itoa_mod]
    simp (disch := first | omega | (simp only [e_ssz, e_psz, e_hszs, List.length_cons, List.length_nil]; try omega; done)) only [↓reduceIte, go_sem]
    exact ⟨by omega, hK _ _ s2⟩
theorem plVarOf_ok {vs : List Value} {h : H} {K : Value → H → Prop} {KP : List PanicEntry → H → Prop} (hC : C_nmS varS vs h K) : HCX Tryd.prog 97 vs h K KP := by
  obtain ⟨u, n, rfl, hP, hK⟩ := hC
  refine plVarOf_H G_nm G_nm_ok _ ?_
  simp (disch := first | omega | (simp only [e_ssz, e_psz, e_hszs, List.length_cons, List.length_nil]; try omega; done)) only [↓reduceIte, go_sem, plVarOf_S, plVarOf_E]
  refine effS_call (.inl ⟨rfl, n, 8, rfl, by omega, by simp (disch := first | omega | (simp only [e_ssz, e_psz, e_hszs, List.length_cons, List.length_nil]; try omega; done)) only [go_sem], ?_⟩)
  obtain ⟨r, hr⟩ : ∃ r, r = n % 8 := ⟨_, rfl⟩
  have h0 := numS_ok n
  unfold varS at hK
  rw [← hr] at hK ⊢
  have h8 : r = 0 ∨ r = 1 ∨ r = 2 ∨ r = 3 ∨ r = 4 ∨ r = 5 ∨ r = 6 ∨ r = 7 := by omega
  clear hr
  rcases h8 with rfl | rfl | rfl | rfl | rfl | rfl | rfl | h8
  · simp only [Int.reduceEq, if_true, if_false] at hK
    simp (disch := first | omega | (simp only [e_ssz, e_psz, e_hszs, List.length_cons, List.length_nil]; try omega; done)) only [↓reduceIte, go_sem]
    exact hK _ _ (Step.refl _ _ _)
  · simp only [Int.reduceEq, if_true, if_false] at hK
    simp (disch := first | omega | (simp only [e_ssz, e_psz, e_hszs, List.length_cons, List.length_nil]; try omega; done)) only [↓reduceIte, go_sem]
    exact hK _ _ (Step.refl _ _ _)
  · simp only [Int.reduceEq, if_true, if_false] at hK
    simp (disch := first | omega | (simp only [e_ssz, e_psz, e_hszs, List.length_cons, List.length_nil]; try omega; done)) only [↓reduceIte, go_sem]
    exact hK _ _ (Step.refl _ _ _)
  · simp only [Int.reduceEq, if_true, if_false] at hK
    simp (disch := first | omega | (simp only [e_ssz, e_psz, e_hszs, List.length_cons, List.length_nil]; try omega; done)) only [↓reduceIte, go_sem]
    exact hK _ _ (Step.refl _ _ _)
  · simp only [Int.reduceEq, if_true, if_false] at hK
    simp (disch := first | omega | (simp only [e_ssz, e_psz, e_hszs, List.length_cons, List.length_nil]; try omega; done)) only [↓reduceIte, go_sem]
    exact hK _ _ (Step.refl _ _ _)
  · simp only [Int.reduceEq, if_true, if_false] at hK
    simp (disch := first | omega | (simp only [e_ssz, e_psz, e_hszs, List.length_cons, List.length_nil]; try omega; done)) only [↓reduceIte, go_sem]
    exact hK _ _ (Step.refl _ _ _)
  · simp only [Int.reduceEq, if_true, if_false] at hK
    simp (disch := first | omega | (simp only [e_ssz, e_psz, e_hszs, List.length_cons, List.length_nil]; try omega; done)) only [↓reduceIte, go_sem]
    refine effS_call (.inr (.inl ⟨rfl, _, rfl, by simp (disch := first | omega | (simp only [e_ssz, e_psz, e_hszs, List.length_cons, List.length_nil]; try omega; done)) only [go_sem], ?_⟩))
    simp (disch := first | omega | (simp only [e_ssz, e_psz, e_hszs, List.length_cons, List.length_nil]; try omega; done)) only [↓reduceIte, go_sem]
    exact hK _ _ (Step.refl _ _ _)
  · simp only [eq_false (show ¬ r = 0 by omega), eq_false (show ¬ r = 1 by omega), eq_false (show ¬ r = 2 by omega), eq_false (show ¬ r = 3 by omega), eq_false (show ¬ r = 4 by omega), eq_false (show ¬ r = 5 by omega), eq_false (show ¬ r = 6 by omega), if_false] at hK
    simp (disch := first | omega | (simp only [e_ssz, e_psz, e_hszs, List.length_cons, List.length_nil]; try omega; done)) only [↓reduceIte, go_sem, eq_false (show ¬ r = 0 by omega), eq_false (show ¬ r = 1 by omega), eq_false (show ¬ r = 2 by omega), eq_false (show ¬ r = 3 by omega), eq_false (show ¬ r = 4 by omega), eq_false (show ¬ r = 5 by omega), eq_false (show ¬ r = 6 by omega)]
    refine effS_call (.inl ⟨rfl, n, 1000, rfl, by omega, by simp (disch := first | omega | (simp only [e_ssz, e_psz, e_hszs, List.length_cons, List.length_nil]; try omega; done)) only [go_sem], ?_⟩)
    simp (disch := first | omega | (simp only [e_ssz, e_psz, e_hszs, List.length_cons, List.length_nil]; try omega; done)) only [↓reduceIte, go_sem]
    refine effS_call (.inr (.inr ⟨rfl, u, n % 1000, rfl, by omega, hP, fun u2 h2 s2 => ⟨by simp (disch := first | omega | (simp only [e_ssz, e_psz, e_hszs, List.length_cons, List.length_nil]; try omega; done)) only [go_sem], ?_⟩⟩))
    rw [itoa_mod]
    simp (disch := first | omega | (simp only [e_ssz, e_psz, e_hszs, List.length_cons, List.length_nil]; try omega; done)) only [↓reduceIte, go_sem]
    exact ⟨by omega, hK _ _ s2⟩
def C_textOf (vs : List Value) (h : H) (K : Value → H → Prop) : Prop := ∃ (u : U) (n : Int), vs = [.int .i64 n] ∧ PowG u h ∧ ∀ u' h', Step S0 u h u' h' → K (.tuple #[str (textS n), str (textV n)]) h'
theorem plTextOf_ok {vs : List Value} {h : H} {K : Value → H → Prop} {KP : List PanicEntry → H → Prop} (hC : C_textOf vs h K) : HCX Tryd.prog 96 vs h K KP := by
  obtain ⟨u, n, rfl, hP, hK⟩ := hC
  refine plTextOf_H G_nm G_nm_ok _ ?_
  simp (disch := first | omega | (simp only [e_ssz, e_psz, e_hszs, List.length_cons, List.length_nil]; try omega; done)) only [↓reduceIte, go_sem, plTextOf_S, plTextOf_E]
  refine effS_call (.inl ⟨rfl, n, 8, rfl, by omega, by simp (disch := first | omega | (simp only [e_ssz, e_psz, e_hszs, List.length_cons, List.length_nil]; try omega; done)) only [go_sem], ?_⟩)
  obtain ⟨r, hr⟩ : ∃ r, r = n % 8 := ⟨_, rfl⟩
  have h0 := numS_ok n
  unfold textS textV at hK
  rw [← hr] at hK ⊢
  have h8 : r = 0 ∨ r = 1 ∨ r = 2 ∨ r = 3 ∨ r = 4 ∨ r = 5 ∨ r = 6 ∨ r = 7 := by omega
  clear hr
  rcases h8 with rfl | rfl | rfl | rfl | rfl | rfl | rfl | rfl
  iterate 7
    · simp only [Int.reduceEq, if_true, if_false] at hK
      simp (disch := first | omega | (simp only [e_ssz, e_psz, e_hszs, List.length_cons, List.length_nil]; try omega; done)) only [↓reduceIte, go_sem]
      exact hK _ _ (Step.refl _ _ _)
  simp only [Int.reduceEq, if_false] at hK
  simp (disch := first | omega | (simp only [e_ssz, e_psz, e_hszs, List.length_cons, List.length_nil]; try omega; done)) only [↓reduceIte, go_sem]
  refine effS_call (.inl ⟨rfl, n, 1000, rfl, by omega, by simp (disch := first | omega | (simp only [e_ssz, e_psz, e_hszs, List.length_cons, List.length_nil]; try omega; done)) only [go_sem], ?_⟩)
  simp (disch := first | omega | (simp only [e_ssz, e_psz, e_hszs, List.length_cons, List.length_nil]; try omega; done)) only [↓reduceIte, go_sem]
  refine effS_call (.inr (.inr ⟨rfl, u, n % 1000, rfl, by omega, hP, fun u2 h2 s2 => ⟨by simp (disch := first | omega | (simp only [e_ssz, e_psz, e_hszs, List.length_cons, List.length_nil]; try omega; done)) only [go_sem], ?_⟩⟩))
  rw [itoa_mod]
  have hK2 := hK _ _ s2
  simp (disch := first | omega | (simp only [e_ssz, e_psz, e_hszs, List.length_cons, List.length_nil]; try omega; done)) only [↓reduceIte, go_sem]
  exact ⟨by omega, by omega, by omega, hK2⟩
theorem plIntOf_ok {vs : List Value} {h : H} {K : Value → H → Prop} {KP : List PanicEntry → H → Prop} (hC : ∃ (u : U) (n : Int), vs = [.int .i64 n] ∧ OkI n ∧ PowG u h ∧ ∀ u' h', Step S0 u h u' h' → K (str (intS n)) h') : HCX Tryd.prog 95 vs h K KP := by
  obtain ⟨u, n, rfl, ⟨hn1, hn2⟩, hP, hK⟩ := hC
  refine plIntOf_H G_nm G_nm_ok _ ?_
  have hdl : ∀ m : Int, OkI m → (Go.Lib.decDigits m.natAbs).length ≤ 19 := fun m hm => dec_len 18 m.natAbs (by
    have : (10 : Nat) ^ (18 + 1) = 10000000000000000000 := by decide
    have := hm.1; have := hm.2; omega)
  have hr1 : ∀ z : Int, intSp n z = if n < 0 then 45 :: (List.replicate (zerosF z) 48 ++ Go.Lib.decDigits n.natAbs) else List.replicate (zerosF z) 48 ++ Go.Lib.decDigits n.natAbs := fun z => rfl
  have hmod : n.tmod 5 = 0 ↔ n % 5 = 0 := by
    constructor
    · intro q; exact Int.emod_eq_zero_of_dvd (Int.dvd_of_tmod_eq_zero q)
    · intro q; exact Int.tmod_eq_zero_of_dvd (Int.dvd_of_emod_eq_zero q)
  unfold intS at hK
  by_cases h0 : 0 ≤ n
  · by_cases h5 : n % 5 = 0
    · rw [if_pos ⟨h0, h5⟩, hr1, if_neg (by omega)] at hK
      simp (disch := first | omega | (simp only [e_ssz, e_psz, e_hszs, List.length_cons, List.length_nil]; try omega; done)) only [↓reduceIte, go_sem, plIntOf_S, plIntOf_E, eq_true h0, eq_true (hmod.2 h5)]
      refine effS_call (.inr (.inr ⟨rfl, u, n, rfl, ⟨hn1, hn2⟩, hP, fun u2 h2 s2 => ⟨by simp (disch := first | omega | (simp only [e_ssz, e_psz, e_hszs, List.length_cons, List.length_nil]; try omega; done)) only [go_sem], ?_⟩⟩))
      have ei : Go.Lib.itoa n = Go.Lib.decDigits n.natAbs := by unfold Go.Lib.itoa; rw [if_neg (by omega)]; congr 1; omega
      have := hdl n ⟨hn1, hn2⟩
      rw [ei]
      simp (disch := first | omega | (simp only [e_ssz, e_psz, e_hszs, List.length_cons, List.length_nil]; try omega; done)) only [↓reduceIte, go_sem]
      exact ⟨by omega, hK _ _ s2⟩
    · rw [if_neg (by omega), if_neg (by omega), hr1, if_neg (by omega)] at hK
      simp (disch := first | omega | (simp only [e_ssz, e_psz, e_hszs, List.length_cons, List.length_nil]; try omega; done)) only [↓reduceIte, go_sem, plIntOf_S, plIntOf_E, eq_true h0, eq_false (fun q => h5 (hmod.1 q)), eq_false (show ¬ n < 0 by omega)]
      refine effS_call (.inr (.inr ⟨rfl, u, n, rfl, ⟨hn1, hn2⟩, hP, fun u2 h2 s2 => ⟨by simp (disch := first | omega | (simp only [e_ssz, e_psz, e_hszs, List.length_cons, List.length_nil]; try omega; done)) only [go_sem], ?_⟩⟩))
      have ei : Go.Lib.itoa n = Go.Lib.decDigits n.natAbs := by unfold Go.Lib.itoa; rw [if_neg (by omega)]; congr 1; omega
      rw [ei]
      simp (disch := first | omega | (simp only [e_ssz, e_psz, e_hszs, List.length_cons, List.length_nil]; try omega; done)) only [↓reduceIte, go_sem]
      exact hK _ _ s2
  · by_cases h5 : n % 5 = 0 ∧ -4611686018427387904 < n
    · rw [if_neg (by omega), if_pos (by omega), hr1, if_pos (by omega)] at hK
      simp (disch := first | omega | (simp only [e_ssz, e_psz, e_hszs, List.length_cons, List.length_nil]; try omega; done)) only [↓reduceIte, go_sem, plIntOf_S, plIntOf_E, eq_false h0, eq_true (show n < 0 by omega), eq_true (hmod.2 h5.1), eq_true h5.2]
      refine effS_call (.inr (.inr ⟨rfl, u, 0 - n, rfl, by omega, hP, fun u2 h2 s2 => ⟨by simp (disch := first | omega | (simp only [e_ssz, e_psz, e_hszs, List.length_cons, List.length_nil]; try omega; done)) only [go_sem], ?_⟩⟩))
      have ei : Go.Lib.itoa (0 - n) = Go.Lib.decDigits n.natAbs := by unfold Go.Lib.itoa; rw [if_neg (by omega)]; congr 1; omega
      have := hdl n ⟨hn1, hn2⟩
      rw [ei]
      simp (disch := first | omega | (simp only [e_ssz, e_psz, e_hszs, List.length_cons, List.length_nil]; try omega; done)) only [↓reduceIte, go_sem]
      exact ⟨by omega, hK _ _ s2⟩
    · rw [if_neg (by omega), if_neg (by omega), hr1, if_pos (by omega)] at hK
      have ei : Go.Lib.itoa n = 45 :: Go.Lib.decDigits n.natAbs := by unfold Go.Lib.itoa; rw [if_pos (by omega)]
      by_cases h6 : n % 5 = 0
      · simp (disch := first | omega | (simp only [e_ssz, e_psz, e_hszs, List.length_cons, List.length_nil]; try omega; done)) only [↓reduceIte, go_sem, plIntOf_S, plIntOf_E, eq_false h0, eq_true (show n < 0 by omega), eq_true (hmod.2 h6), eq_false (show ¬ -4611686018427387904 < n by omega)]
        refine effS_call (.inr (.inr ⟨rfl, u, n, rfl, ⟨hn1, hn2⟩, hP, fun u2 h2 s2 => ⟨by simp (disch := first | omega | (simp only [e_ssz, e_psz, e_hszs, List.length_cons, List.length_nil]; try omega; done)) only [go_sem], ?_⟩⟩))
        rw [ei]
        simp (disch := first | omega | (simp only [e_ssz, e_psz, e_hszs, List.length_cons, List.length_nil]; try omega; done)) only [↓reduceIte, go_sem]
        exact hK _ _ s2
      · simp (disch := first | omega | (simp only [e_ssz, e_psz, e_hszs, List.length_cons, List.length_nil]; try omega; done)) only [↓reduceIte, go_sem, plIntOf_S, plIntOf_E, eq_false h0, eq_true (show n < 0 by omega), eq_false (fun q => h6 (hmod.1 q))]
        refine effS_call (.inr (.inr ⟨rfl, u, n, rfl, ⟨hn1, hn2⟩, hP, fun u2 h2 s2 => ⟨by simp (disch := first | omega | (simp only [e_ssz, e_psz, e_hszs, List.length_cons, List.length_nil]; try omega; done)) only [go_sem], ?_⟩⟩))
        rw [ei]
        simp (disch := first | omega | (simp only [e_ssz, e_psz, e_hszs, List.length_cons, List.length_nil]; try omega; done)) only [↓reduceIte, go_sem]
        exact hK _ _ s2
def C_opOf (vs : List Value) (h : H) (K : Value → H → Prop) : Prop := ∃ (n : Int), vs = [.int .i64 n] ∧ K (str (opS n)) h
theorem plOpOf_ok {vs : List Value} {h : H} {K : Value → H → Prop} {KP : List PanicEntry → H → Prop} (hC : C_opOf vs h K) : HCX Tryd.prog 98 vs h K KP := by
  obtain ⟨n, rfl, hK⟩ := hC
  refine plOpOf_H G_mod G_mod_ok _ ?_
  simp (disch := first | omega | (simp only [e_ssz, e_psz, e_hszs, List.length_cons, List.length_nil]; try omega; done)) only [↓reduceIte, go_sem, plOpOf_S, plOpOf_E]
  refine effS_call ⟨rfl, n, 6, rfl, by omega, by simp (disch := first | omega | (simp only [e_ssz, e_psz, e_hszs, List.length_cons, List.length_nil]; try omega; done)) only [go_sem], ?_⟩
  obtain ⟨r, hr⟩ : ∃ r, r = n % 6 := ⟨_, rfl⟩
  unfold opS at hK
  rw [← hr] at hK ⊢
  have h8 : r = 0 ∨ r = 1 ∨ r = 2 ∨ r = 3 ∨ r = 4 ∨ r = 5 := by omega
  clear hr
  rcases h8 with rfl | rfl | rfl | rfl | rfl | rfl
  all_goals
    simp only [Int.reduceEq, if_true, if_false] at hK
    simp (disch := first | omega | (simp only [e_ssz, e_psz, e_hszs, List.length_cons, List.length_nil]; try omega; done)) only [↓reduceIte, go_sem]
    exact hK
end Go.Proofs.YtmnfhmbmifompaaDoor
