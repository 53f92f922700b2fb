/- What lex's next computes. -/
import Derived.Test.YtlenjlidahnklaaDoorLexW
import Derived.Test.YtlenjlidahnklaaDoorGap
namespace Edict
abbrev Sg := List UInt8 × Int × Int
def signsL : List Sg := [([58, 45], 9, 0), ([33, 61], 11, 2), ([60, 61], 11, 4), ([62, 61], 11, 6), ([60], 11, 3), ([62], 11, 5), ([61], 11, 1), ([40], 5, 0), ([41], 6, 0), ([44], 7, 0), ([46], 8, 0)]
def findSg (s : List UInt8) (o : Nat) : List Sg → TR
  | [] => .bad 10 o
  | x :: r => if x.1.isPrefixOf (s.drop o) then sgn x.2.1 x.2.2 o x.1.length else findSg s o r
theorem pre_one {s : List UInt8} {o : Nat} (h : o < s.length) (a : UInt8) : List.isPrefixOf [a] (s.drop o) = decide (bat s o = a.toNat) := by
  rw [List.drop_eq_getElem_cons h]
  have : bat s o = s[o].toNat := by unfold bat; rw [List.getD_eq_getElem?_getD, List.getElem?_eq_getElem h]; rfl
  rw [this]
  simp only [List.isPrefixOf, Bool.and_true]
  apply Bool.eq_iff_iff.2
  simp only [beq_iff_eq, decide_eq_true_eq, UInt8.toNat_inj]
  exact eq_comm
end Edict
namespace Go.Proofs.YtlenjlidahnklaaDoor
open Go Go.Ev Edict
theorem sign_find {s : List UInt8} {o : Nat} (h : o < s.length) : signF s o = findSg s o signsL := by
  unfold signF signsL
  simp only [findSg, pre_pr, pre_one h, decide_eq_true_eq, List.length_cons, List.length_nil]
  rfl
theorem find_drop {s : List UInt8} {o i : Nat} {l : List Sg} {x : Sg} (h : l[i]? = some x) : findSg s o (l.drop i) = if x.1.isPrefixOf (s.drop o) then sgn x.2.1 x.2.2 o x.1.length else findSg s o (l.drop (i + 1)) := by
  obtain ⟨hi, rfl⟩ := List.getElem?_eq_some_iff.1 h
  rw [List.drop_eq_getElem_cons hi]; rfl
theorem rep_sg {u : U} {h : H} {k : Sg} {cs : List Value} : Rep.rep u h k cs = (cs = [str k.1, .int .i64 k.2.1, .int .i64 k.2.2]) := by simp [rep_prod, rep_int, rep_str]
theorem sz_sg : Rep.sz Sg = 3 := rfl
/-- What lex.signs holds. -/
def SgG (u : U) (h : H) : Prop := 0 < h.size ∧ 1 ≤ hsz h 0 ∧ 1 ≤ u 0 ∧ IsSl u h (hv h 0 0) signsL
theorem SgG.mono {u u' : U} {h h' : H} (k : SgG u h) (g : Ge u h u' h') : SgG u' h' := by
  obtain ⟨k1, k2, k3, k4⟩ := k
  refine ⟨Nat.lt_of_lt_of_le k1 g.sz, by rw [(g.hs _ k1).1]; exact k2, Nat.le_trans k3 (g.up _ k1), ?_⟩
  rw [g.cl _ k1 0 (by omega)]; exact k4.mono g
def LxG (u : U) (h : H) : Prop := SgG u h ∧ ErrG u h
theorem LxG.mono {u u' : U} {h h' : H} (k : LxG u h) (g : Ge u h u' h') : LxG u' h' := ⟨k.1.mono g, k.2.mono g⟩
def G_lxNext : Ctr := fun f vs h K _ => (f = 48 ∧ C_lxGap vs h K) ∨ (f = 49 ∧ C_fault vs h K) ∨ (f = 50 ∧ C_b dgB vs h K) ∨ (f = 51 ∧ C_peek vs h K) ∨
  (f = 52 ∧ C_tok ErrG (fun s k => intF s k (fromF s k)) (fun s k => k < s.length ∧ dgB (bat s (fromF s k)) = true) vs h K) ∨ (f = 53 ∧ C_b wdB vs h K) ∨
  (f = 54 ∧ C_tok noG wordF (fun s k => k < s.length ∧ wdB (bat s k) = true) vs h K) ∨ (f = 55 ∧ C_tok noG (fun s k => txtF s k (k + 1) []) (fun s k => k < s.length) vs h K) ∨ (f = 56 ∧ C_hasPrefix vs h K)
theorem G_lxNext_ok : GOk Tryd.prog G_lxNext := by
  rintro f vs h K KP (⟨rfl, hC⟩ | ⟨rfl, hC⟩ | ⟨rfl, hC⟩ | ⟨rfl, hC⟩ | ⟨rfl, hC⟩ | ⟨rfl, hC⟩ | ⟨rfl, hC⟩ | ⟨rfl, hC⟩ | ⟨rfl, hC⟩)
  · exact lxGap_ok hC
  · exact lxFault_ok hC
  · exact lxIsDigit_ok hC
  · exact lxPeek_ok hC
  · exact lxInteger_ok hC
  · exact lxIsWord_ok hC
  · exact lxWord_ok hC
  · exact lxText_ok hC
  · exact stHasPrefix_ok hC
theorem tok_in {s : List UInt8} {o : Nat} (h : o < s.length) : tokF s o = if dgB (bat s o) then intF s o o else if bat s o = 45 ∧ dgB (bat s (o + 1)) = true then intF s o (o + 1) else if wdB (bat s o) then wordF s o else if bat s o = 34 then txtF s o (o + 1) [] else signF s o := by
  unfold tokF; rw [if_neg (by omega)]
theorem lxNext_ok {vs : List Value} {h : H} {K : Value → H → Prop} {KP : List PanicEntry → H → Prop} (hC : C_tok LxG nextF (fun _ _ => True) vs h K) : HCX Tryd.prog 47 vs h K KP := by
  obtain ⟨u, B, s, k, rfl, hB, hk, hl, -, hG, hK⟩ := hC
  have hB1 := hB.1
  refine lxNext_H G_lxNext G_lxNext_ok _ ?_
  have sp : Step (fun i => i = B) u h _ _ := Step.push0 (fun i => i = B) u h tok0.toArray 80
  have T0 : Blk (ub u h.size 0) (h.push (.cells tok0.toArray 80)) h.size tok0 := Blk.new tok0 _
  have sp1 := sp.pushR (c := (fltE 0 0).toArray) (t := 27)
  have T1 := T0.pushR (c := (fltE 0 0).toArray) (t := 27)
  have F1 := Blk.new (u := ub u h.size 0) (h := h.push (.cells tok0.toArray 80)) (fltE 0 0) 27
  have b1 := (hB.pushR (c := tok0.toArray) (t := 80)).pushR (c := (fltE 0 0).toArray) (t := 27)
  simp only [e_psz] at sp1 T1 F1 b1
  simp (disch := first | omega | (simp only [e_ssz, e_psz, e_hszs, List.length_cons, List.length_nil]; try omega; done)) only [↓reduceIte, go_sem, lxNext_S, lxNext_E]
  obtain ⟨h1, hh1⟩ : ∃ h1, h1 = (h.push (.cells tok0.toArray 80)).push (.cells (fltE 0 0).toArray 27) := ⟨_, rfl⟩
  rw [← hh1] at sp1 T1 F1 b1
  simp only [tok0, fltE] at hh1
  rw [← hh1]
  clear sp T0 hh1
  obtain ⟨u1, hu1⟩ : ∃ u1, u1 = ub (ub u h.size 0) (h.size + 1) 0 := ⟨_, rfl⟩
  rw [← hu1] at sp1 T1 F1 b1
  clear hu1
  refine effS_call (.inl ⟨rfl, B, s, k, rfl, ⟨b1.2.1, b1.2.2.1, b1.at 0 (by simp), b1.at 1 (by simp), hk, hl⟩, fun j hj hg => ?_⟩)
  have gl := gap_le hk
  obtain ⟨o, ho⟩ : ∃ o, o = (gapF s k).1 := ⟨_, rfl⟩
  have st2 := sp1.setR (o := 1) (v := .int .i64 (j : Int)) (.inr rfl) (by rw [b1.2.2.2.1]; exact Nat.zero_le _)
  have b2 : Rdr u1 (hset h1 B 1 (.int .i64 (j : Int))) B s j := b1.set (i := 1) (v := .int .i64 (j : Int)) (by simp)
  have ss := Step.set (S := fun i => i = B) u1 h1 (o := 1) (.int .i64 (j : Int)) (b := B) rfl (by rw [b1.2.2.2.1]; exact Nat.zero_le _)
  have T2 := T1.step ss (by omega)
  have F2 := F1.step ss (by omega)
  obtain ⟨h2, hh2⟩ : ∃ h2, h2 = hset h1 B 1 (.int .i64 (j : Int)) := ⟨_, rfl⟩
  rw [← hh2] at st2 b2 T2 F2 ⊢
  clear hh2 ss T1 F1 b1 sp1
  have G2 := hG.mono st2.ge
  have b21 := b2.1; have T21 := T2.1; have F21 := F2.1
  refine ⟨by simp (disch := first | omega | (simp only [e_ssz, e_psz, e_hszs, List.length_cons, List.length_nil]; try omega; done)) only [go_sem], ?_⟩
  rw [← ho] at gl hg ⊢
  cases hg2 : (gapF s k).2 with
  | false =>
    have hn : nextF s k = .bad 16 o := by unfold nextF; rw [hg2, ← ho]; rfl
    rw [hn] at hK
    simp (disch := first | omega | (simp only [e_ssz, e_psz, e_hszs, List.length_cons, List.length_nil]; try omega; done)) only [↓reduceIte, go_sem]
    refine effS_call (.inr (.inl ⟨rfl, u1, _, 16, o, rfl, fun u4 h4 s4 => ⟨by simp (disch := first | omega | (simp only [e_ssz, e_psz, e_hszs, List.length_cons, List.length_nil]; try omega; done)) only [go_sem], ?_⟩⟩))
    have T4 := T2.step0 s4
    have F4 := F2.step0 s4
    obtain ⟨r1, r2, r3, -⟩ := res2 (la := tok0) (lb := fltE 16 o) (st2.trans0 s4) T4 F4 (by omega) (by omega) (by omega) rfl rfl
    have T41 := T4.1
    have F41 := F4.1
    simp only [tok0, fltE] at r1 r2 r3
    simp (disch := first | omega | (simp only [e_ssz, e_psz, e_hszs, List.length_cons, List.length_nil]; try omega; done)) only [↓reduceIte, go_sem, tok0, fltE, T4.2.1, T4.2.2.1, F4.2.1, F4.2.2.1, hsets_hsz, hsets_hfr, r2.at, r3.at, r2.2.1, r3.2.1]
    exact hK _ _ r1 (fun t ht => by cases ht)
  | true =>
    have hn : nextF s k = tokF s o := by unfold nextF; rw [hg2, ← ho]; rfl
    obtain rfl : j = o := hg hg2
    rw [hn] at hK
    clear hn hg hg2 ho
    by_cases hend : j = s.length
    · have ht : tokF s j = .ok (0, [], 0, 0, j, j) := by unfold tokF; rw [if_pos (by omega)]
      rw [ht] at hK
      obtain ⟨r1, r2, r3, r4⟩ := res2 (la := [.int .i64 0, str [], .int .i64 0, .int .i64 0, .int .i64 j, .int .i64 j]) (lb := fltE 0 0) st2 T2 F2 (by omega) (by omega) (by omega) rfl rfl
      have b3 := r4 B _ b2 (by omega) (by omega)
      simp only [fltE] at r1 r2 r3 b3
      have T22 := T2.2.1
      have F22 := F2.2.1
      simp only [tok0, fltE, List.length_cons, List.length_nil] at T22 F22
      simp (disch := first | omega | (simp only [e_ssz, e_psz, e_hszs, List.length_cons, List.length_nil]; try omega; done)) only [↓reduceIte, go_sem, b2.at, b2.2.1, eq_true (show (j : Int) = (s.length : Nat) by omega), T22, T2.2.2.1, F22, F2.2.2.1, hsets_hsz, hsets_hfr, r2.at, r3.at, r2.2.1, r3.2.1]
      exact hK _ _ r1 (fun t ht => by cases ht; exact b3)
    have hjl : j < s.length := by omega
    rw [tok_in hjl] at hK
    simp (disch := first | omega | (simp only [e_ssz, e_psz, e_hszs, List.length_cons, List.length_nil]; try omega; done)) only [↓reduceIte, go_sem, b2.at, b2.2.1, eq_false (show ¬ (j : Int) = (s.length : Nat) by omega), eq_true hjl, batf]
    refine effS_call (.inr (.inr (.inl ⟨rfl, bat s j, rfl, ⟨by simp (disch := first | omega | (simp only [e_ssz, e_psz, e_hszs, List.length_cons, List.length_nil]; try omega; done)) only [go_sem], ?_⟩⟩)))
    cases hd : dgB (bat s j) with
    | true =>
      have hf : fromF s j = j := by unfold fromF; rw [if_neg (by unfold dgB at hd; simp at hd; omega)]
      rw [hd, if_pos rfl] at hK
      simp (disch := first | omega | (simp only [e_ssz, e_psz, e_hszs, List.length_cons, List.length_nil]; try omega; done)) only [↓reduceIte, go_sem]
      refine effS_call (.inr (.inr (.inr (.inr (.inl ⟨rfl, u1, B, s, j, rfl, b2, hj, hl, ⟨hjl, by rw [hf]; exact hd⟩, G2.2, fun u3 h3 s3 hr3 => ?_⟩)))))
      simp only [hf] at hr3 ⊢
      have st3 := st2.trans s3 (fun q _ h => h)
      have T3 := T2.step s3 (by omega)
      have F3 := F2.step s3 (by omega)
      have T31 := T3.1
      have F31 := F3.1
      have T32 := T3.2.1
      have F32 := F3.2.1
      simp only [tok0, fltE, List.length_cons, List.length_nil] at T32 F32
      cases hr : intF s j j with
      | ok t =>
        rw [hr] at hK hr3
        have b3 := hr3 t rfl
        obtain ⟨r1, r2, r3, r4⟩ := res2 (la := tokE t) (lb := fltE 0 0) st3 T3 F3 (by omega) (by omega) (by omega) rfl rfl
        have b4 := r4 B _ b3 (by omega) (by omega)
        simp only [tokE, fltE] at r1 r2 r3 b4
        refine ⟨by simp (disch := first | omega | (simp only [e_ssz, e_psz, e_hszs, List.length_cons, List.length_nil]; try omega; done)) only [go_sem], ?_⟩
        simp only [resV, tokE, fltE]
        simp (disch := first | omega | (simp only [e_ssz, e_psz, e_hszs, List.length_cons, List.length_nil]; try omega; done)) only [↓reduceIte, go_sem, T32, T3.2.2.1, F32, F3.2.2.1, hsets_hsz, hsets_hfr, r2.at, r3.at, r2.2.1, r3.2.1]
        exact hK _ _ r1 (fun t' ht => by cases ht; exact b4)
      | bad c o' =>
        rw [hr] at hK
        obtain ⟨r1, r2, r3, -⟩ := res2 (la := tok0) (lb := fltE c o') st3 T3 F3 (by omega) (by omega) (by omega) rfl rfl
        simp only [tok0, fltE] at r1 r2 r3
        refine ⟨by simp (disch := first | omega | (simp only [e_ssz, e_psz, e_hszs, List.length_cons, List.length_nil]; try omega; done)) only [go_sem], ?_⟩
        simp only [resV, tok0, fltE]
        simp (disch := first | omega | (simp only [e_ssz, e_psz, e_hszs, List.length_cons, List.length_nil]; try omega; done)) only [↓reduceIte, go_sem, T32, T3.2.2.1, F32, F3.2.2.1, hsets_hsz, hsets_hfr, r2.at, r3.at, r2.2.1, r3.2.1]
        exact hK _ _ r1 (fun t' ht => by cases ht)
    | false =>
      rw [hd] at hK
      simp only [Bool.false_eq_true, if_false] at hK
      by_cases hm : bat s j = 45
      · simp (disch := first | omega | (simp only [e_ssz, e_psz, e_hszs, List.length_cons, List.length_nil]; try omega; done)) only [↓reduceIte, go_sem, eq_true (show (bat s j : Int) = 45 by omega)]
        refine effS_call (.inr (.inr (.inr (.inl ⟨rfl, B, s, j, 1, rfl, b2.2.1, b2.at 0 (by simp), b2.at 1 (by simp), hj, hl, by omega, ⟨by simp (disch := first | omega | (simp only [e_ssz, e_psz, e_hszs, List.length_cons, List.length_nil]; try omega; done)) only [go_sem], ?_⟩⟩))))
        simp (disch := first | omega | (simp only [e_ssz, e_psz, e_hszs, List.length_cons, List.length_nil]; try omega; done)) only [↓reduceIte, go_sem, eq_true (show (bat s j : Int) = 45 by omega)]
        refine effS_call (.inr (.inr (.inl ⟨rfl, bat s (j + 1), rfl, ⟨by simp (disch := first | omega | (simp only [e_ssz, e_psz, e_hszs, List.length_cons, List.length_nil]; try omega; done)) only [go_sem], ?_⟩⟩)))
        cases hd1 : dgB (bat s (j + 1)) with
        | true =>
          have hf : fromF s j = j + 1 := by unfold fromF; rw [if_pos hm]
          rw [if_pos ⟨hm, hd1⟩] at hK
          simp (disch := first | omega | (simp only [e_ssz, e_psz, e_hszs, List.length_cons, List.length_nil]; try omega; done)) only [↓reduceIte, go_sem, eq_true (show (bat s j : Int) = 45 by omega)]
          refine effS_call (.inr (.inr (.inr (.inr (.inl ⟨rfl, u1, B, s, j, rfl, b2, hj, hl, ⟨hjl, by rw [hf]; exact hd1⟩, G2.2, fun u3 h3 s3 hr3 => ?_⟩)))))
          simp only [hf] at hr3 ⊢
          have st3 := st2.trans s3 (fun q _ h => h)
          have T3 := T2.step s3 (by omega)
          have F3 := F2.step s3 (by omega)
          have T31 := T3.1
          have F31 := F3.1
          have T32 := T3.2.1
          have F32 := F3.2.1
          simp only [tok0, fltE, List.length_cons, List.length_nil] at T32 F32
          cases hr : intF s j (j + 1) with
          | ok t =>
            rw [hr] at hK hr3
            have b3 := hr3 t rfl
            obtain ⟨r1, r2, r3, r4⟩ := res2 (la := tokE t) (lb := fltE 0 0) st3 T3 F3 (by omega) (by omega) (by omega) rfl rfl
            have b4 := r4 B _ b3 (by omega) (by omega)
            simp only [tokE, fltE] at r1 r2 r3 b4
            refine ⟨by simp (disch := first | omega | (simp only [e_ssz, e_psz, e_hszs, List.length_cons, List.length_nil]; try omega; done)) only [go_sem], ?_⟩
            simp only [resV, tokE, fltE]
            simp (disch := first | omega | (simp only [e_ssz, e_psz, e_hszs, List.length_cons, List.length_nil]; try omega; done)) only [↓reduceIte, go_sem, T32, T3.2.2.1, F32, F3.2.2.1, hsets_hsz, hsets_hfr, r2.at, r3.at, r2.2.1, r3.2.1]
            exact hK _ _ r1 (fun t' ht => by cases ht; exact b4)
          | bad c o' =>
            rw [hr] at hK
            obtain ⟨r1, r2, r3, -⟩ := res2 (la := tok0) (lb := fltE c o') st3 T3 F3 (by omega) (by omega) (by omega) rfl rfl
            simp only [tok0, fltE] at r1 r2 r3
            refine ⟨by simp (disch := first | omega | (simp only [e_ssz, e_psz, e_hszs, List.length_cons, List.length_nil]; try omega; done)) only [go_sem], ?_⟩
            simp only [resV, tok0, fltE]
            simp (disch := first | omega | (simp only [e_ssz, e_psz, e_hszs, List.length_cons, List.length_nil]; try omega; done)) only [↓reduceIte, go_sem, T32, T3.2.2.1, F32, F3.2.2.1, hsets_hsz, hsets_hfr, r2.at, r3.at, r2.2.1, r3.2.1]
            exact hK _ _ r1 (fun t' ht => by cases ht)
        | false =>
          have hw : wdB (bat s j) = false := by rw [hm]; decide
          rw [if_neg (by rw [hd1]; simp), hw] at hK
          simp only [Bool.false_eq_true, if_false] at hK
          rw [if_neg (by omega)] at hK
          simp (disch := first | omega | (simp only [e_ssz, e_psz, e_hszs, List.length_cons, List.length_nil]; try omega; done)) only [↓reduceIte, go_sem, eq_true (show (bat s j : Int) = 45 by omega)]
          refine effS_call (.inr (.inr (.inr (.inr (.inr (.inl ⟨rfl, bat s j, rfl, ⟨by simp (disch := first | omega | (simp only [e_ssz, e_psz, e_hszs, List.length_cons, List.length_nil]; try omega; done)) only [go_sem], ?_⟩⟩))))))
          rw [hw]
          simp (disch := first | omega | (simp only [e_ssz, e_psz, e_hszs, List.length_cons, List.length_nil]; try omega; done)) only [↓reduceIte, go_sem, eq_false (show ¬ (bat s j : Int) = 34 by omega)]
          rw [sign_find hjl] at hK
          obtain ⟨g1, g2, g3, g4⟩ := G2.1
          obtain ⟨sa, sc, hse, -, -⟩ := g4.sl
          simp (disch := first | omega | (simp only [e_ssz, e_psz, e_hszs, List.length_cons, List.length_nil]; try omega; done)) only [go_sem, hse, eq_true (show 0 < hsz h2 0 by omega), show signsL.length = 11 from rfl]
          obtain ⟨I, hI⟩ : ∃ I : Nat → Env → H → Prop, I = fun i σ h' => σ 0 = .pointer (some ⟨B, 0, none⟩) ∧ σ 2 = .pointer (some ⟨h.size, 0, none⟩) ∧ σ 3 = .pointer (some ⟨h.size + 1, 0, none⟩) ∧ σ 6 = .int .i64 j ∧ σ 73 = .slice sa 11 sc ∧ σ 74 = .int .i64 11 ∧ σ 75 = .int .i64 i ∧ i ≤ 11 ∧ findSg s j signsL = findSg s j (signsL.drop i) ∧
              ∃ u', Step (fun i => i = B) u h u' h' ∧ Rdr u' h' B s j ∧ Blk u' h' h.size tok0 ∧ Blk u' h' (h.size + 1) (fltE 0 0) ∧ IsSl u' h' (.slice sa 11 sc) signsL := ⟨_, rfl⟩
          refine wpS_loop I (fun i => 11 - i) 0 (by
            rw [hI]
            exact ⟨by simp [upd], by simp [upd], by simp [upd], by simp [upd], by simp [upd], by simp [upd], by simp [upd], by omega, rfl, u1, st2, b2, T2, F2, by rw [hse] at g4; exact g4⟩) ?_
          clear st2 b2 T2 F2 G2 g1 g2 g3 g4 b21 T21 F21
          intro i σ h' hy
          rw [hI] at hy
          obtain ⟨e0, e2, e3, e6, e73, e74, e75, hi, hfd, u', st, b, T, F, hs⟩ := hy
          have b01 := b.1; have T01 := T.1; have F01 := F.1
          by_cases hlt : i < 11
          · obtain ⟨x, hx⟩ : ∃ x, signsL[i]? = some x := ⟨signsL[i]'hlt, List.getElem?_eq_getElem hlt⟩
            obtain ⟨pb, po, rfl, hpb, hpu, hpz, hpr⟩ := hs.row i x hx
            rw [rep_sg] at hpr
            simp only [sz_sg, hvs_3, List.cons.injEq, and_true] at hpr hpu hpz
            obtain ⟨p0, p1, p2⟩ := hpr
            have hx11 : x.1.length ≤ 2 := by
              have : ∀ y ∈ signsL, y.1.length ≤ 2 := by decide
              exact this x (List.mem_of_getElem? hx)
            rw [hfd, find_drop hx] at hK
            simp (disch := first | omega | (simp only [e_ssz, e_psz, e_hszs, List.length_cons, List.length_nil]; try omega; done)) only [↓reduceIte, go_sem, lxNext_L1, e0, e6, e73, e74, e75, eq_true (show (i : Int) < 11 by omega), p0, p1, p2, b.at, b.2.1, eq_true (show j ≤ s.length by omega)]
            refine effS_call (.inr (.inr (.inr (.inr (.inr (.inr (.inr (.inr ⟨rfl, s.drop j, x.1, rfl, by rw [List.length_drop]; omega, by omega, ⟨by simp (disch := first | omega | (simp only [e_ssz, e_psz, e_hszs, List.length_cons, List.length_nil]; try omega; done)) only [go_sem], ?_⟩⟩))))))))
            cases hp : x.1.isPrefixOf (s.drop j) with
            | true =>
              rw [hp, if_pos rfl] at hK
              have hpl := (List.isPrefixOf_iff_prefix.1 hp).length_le
              rw [List.length_drop] at hpl
              have st3 := st.setR (o := 1) (v := .int .i64 ((j + x.1.length : Nat) : Int)) (.inr rfl) (by rw [b.2.2.2.1]; exact Nat.zero_le _)
              have b3 : Rdr u' (hset h' B 1 (.int .i64 ((j + x.1.length : Nat) : Int))) B s (j + x.1.length) := b.set (i := 1) (v := .int .i64 ((j + x.1.length : Nat) : Int)) (by simp)
              have ss := Step.set (S := fun i => i = B) u' h' (o := 1) (.int .i64 ((j + x.1.length : Nat) : Int)) (b := B) rfl (by rw [b.2.2.2.1]; exact Nat.zero_le _)
              have T3 := T.step ss (by omega)
              have F3 := F.step ss (by omega)
              obtain ⟨r1, r2, r3, r4⟩ := res2 (la := [.int .i64 x.2.1, str [], .int .i64 0, .int .i64 x.2.2, .int .i64 j, .int .i64 ((j + x.1.length : Nat) : Int)]) (lb := fltE 0 0) st3 T3 F3 (by omega) (by omega) (by omega) rfl rfl
              have b4 := r4 B _ b3 (by omega) (by omega)
              have T31 := T3.1; have F31 := F3.1; have b31 := b3.1; have r21 := r2.1; have r31 := r3.1
              have q1 : (hset h' B 1 (.int .i64 ((j + x.1.length : Nat) : Int))).size = h'.size := e_ssz
              have q2 : (hsets (hset h' B 1 (.int .i64 ((j + x.1.length : Nat) : Int))) h.size 0 [.int .i64 x.2.1, str [], .int .i64 0, .int .i64 x.2.2, .int .i64 j, .int .i64 ((j + x.1.length : Nat) : Int)]).size = h'.size := by rw [hsets_size, e_ssz]
              have T32 := T3.2.1
              have F32 := F3.2.1
              simp only [tok0, fltE, List.length_cons, List.length_nil] at r1 r2 r3 b4 T32 F32 r21 r31
              have ej : ((j : Int) + (x.1.length : Nat)) = ((j + x.1.length : Nat) : Int) := by omega
              simp (disch := first | omega | (simp only [e_ssz, e_psz, e_hszs, List.length_cons, List.length_nil]; try omega; done)) only [↓reduceIte, go_sem, e0, e2, e3, e6, ej, b.2.1, b.2.2.1, b3.at, b3.2.1, T32, T3.2.2.1, F32, F3.2.2.1, hsets_hsz, hsets_hfr, r2.at, r3.at, r2.2.1, r3.2.1]
              exact hK _ _ r1.pushR (fun t ht => by cases ht; exact b4.pushR)
            | false =>
              rw [hp] at hK
              simp only [Bool.false_eq_true, if_false] at hK
              have hfd' := hfd
              rw [find_drop hx, hp] at hfd'
              simp only [Bool.false_eq_true, if_false] at hfd'
              simp (disch := first | omega | (simp only [e_ssz, e_psz, e_hszs, List.length_cons, List.length_nil]; try omega; done)) only [↓reduceIte, go_sem, e75]
              refine ⟨i + 1, ?_, by omega⟩
              rw [hI]
              exact ⟨by simp [upd, e0], by simp [upd, e2], by simp [upd, e3], by simp [upd, e6], by simp [upd, e73], by simp [upd, e74], by simp [upd], by omega, hfd', _, st.pushR, b.pushR, T.pushR, F.pushR, hs.mono (Step.push0 S0 u' h' _ _).ge⟩
          · obtain rfl : i = 11 := by omega
            have hbad : findSg s j signsL = .bad 10 j := hfd
            rw [hbad] at hK
            simp (disch := first | omega | (simp only [e_ssz, e_psz, e_hszs, List.length_cons, List.length_nil]; try omega; done)) only [↓reduceIte, go_sem, lxNext_L1, e0, e6, e74, e75]
            refine effS_call (.inr (.inl ⟨rfl, u', _, 10, j, rfl, fun u4 h4 s4 => ⟨by simp (disch := first | omega | (simp only [e_ssz, e_psz, e_hszs, List.length_cons, List.length_nil]; try omega; done)) only [go_sem], ?_⟩⟩))
            have T4 := T.step0 s4
            have F4 := F.step0 s4
            obtain ⟨r1, r2, r3, -⟩ := res2 (la := tok0) (lb := fltE 10 j) (st.trans0 s4) T4 F4 (by omega) (by omega) (by omega) rfl rfl
            have T41 := T4.1
            have F41 := F4.1
            simp only [tok0, fltE] at r1 r2 r3
            simp (disch := first | omega | (simp only [e_ssz, e_psz, e_hszs, List.length_cons, List.length_nil]; try omega; done)) only [↓reduceIte, go_sem, e2, e3, tok0, fltE, T4.2.1, T4.2.2.1, F4.2.1, F4.2.2.1, hsets_hsz, hsets_hfr, r2.at, r3.at, r2.2.1, r3.2.1]
            exact hK _ _ r1 (fun t ht => by cases ht)
      · rw [if_neg (fun h => hm h.1)] at hK
        simp (disch := first | omega | (simp only [e_ssz, e_psz, e_hszs, List.length_cons, List.length_nil]; try omega; done)) only [↓reduceIte, go_sem, eq_false (show ¬ (bat s j : Int) = 45 by omega)]
        refine effS_call (.inr (.inr (.inr (.inr (.inr (.inl ⟨rfl, bat s j, rfl, ⟨by simp (disch := first | omega | (simp only [e_ssz, e_psz, e_hszs, List.length_cons, List.length_nil]; try omega; done)) only [go_sem], ?_⟩⟩))))))
        cases hw : wdB (bat s j) with
        | true =>
          rw [hw, if_pos rfl] at hK
          simp (disch := first | omega | (simp only [e_ssz, e_psz, e_hszs, List.length_cons, List.length_nil]; try omega; done)) only [↓reduceIte, go_sem]
          refine effS_call (.inr (.inr (.inr (.inr (.inr (.inr (.inl ⟨rfl, u1, B, s, j, rfl, b2, hj, hl, ⟨hjl, hw⟩, trivial, fun u3 h3 s3 hr3 => ?_⟩)))))))
          have st3 := st2.trans s3 (fun q _ h => h)
          have T3 := T2.step s3 (by omega)
          have F3 := F2.step s3 (by omega)
          have T31 := T3.1
          have F31 := F3.1
          have T32 := T3.2.1
          have F32 := F3.2.1
          simp only [tok0, fltE, List.length_cons, List.length_nil] at T32 F32
          cases hr : wordF s j with
          | ok t =>
            rw [hr] at hK hr3
            have b3 := hr3 t rfl
            obtain ⟨r1, r2, r3, r4⟩ := res2 (la := tokE t) (lb := fltE 0 0) st3 T3 F3 (by omega) (by omega) (by omega) rfl rfl
            have b4 := r4 B _ b3 (by omega) (by omega)
            simp only [tokE, fltE] at r1 r2 r3 b4
            refine ⟨by simp (disch := first | omega | (simp only [e_ssz, e_psz, e_hszs, List.length_cons, List.length_nil]; try omega; done)) only [go_sem], ?_⟩
            simp only [resV, tokE, fltE]
            simp (disch := first | omega | (simp only [e_ssz, e_psz, e_hszs, List.length_cons, List.length_nil]; try omega; done)) only [↓reduceIte, go_sem, T32, T3.2.2.1, F32, F3.2.2.1, hsets_hsz, hsets_hfr, r2.at, r3.at, r2.2.1, r3.2.1]
            exact hK _ _ r1 (fun t' ht => by cases ht; exact b4)
          | bad c o' =>
            rw [hr] at hK
            obtain ⟨r1, r2, r3, -⟩ := res2 (la := tok0) (lb := fltE c o') st3 T3 F3 (by omega) (by omega) (by omega) rfl rfl
            simp only [tok0, fltE] at r1 r2 r3
            refine ⟨by simp (disch := first | omega | (simp only [e_ssz, e_psz, e_hszs, List.length_cons, List.length_nil]; try omega; done)) only [go_sem], ?_⟩
            simp only [resV, tok0, fltE]
            simp (disch := first | omega | (simp only [e_ssz, e_psz, e_hszs, List.length_cons, List.length_nil]; try omega; done)) only [↓reduceIte, go_sem, T32, T3.2.2.1, F32, F3.2.2.1, hsets_hsz, hsets_hfr, r2.at, r3.at, r2.2.1, r3.2.1]
            exact hK _ _ r1 (fun t' ht => by cases ht)
        | false =>
          rw [hw] at hK
          simp only [Bool.false_eq_true, if_false] at hK
          by_cases hq : bat s j = 34
          · rw [if_pos hq] at hK
            simp (disch := first | omega | (simp only [e_ssz, e_psz, e_hszs, List.length_cons, List.length_nil]; try omega; done)) only [↓reduceIte, go_sem, eq_true (show (bat s j : Int) = 34 by omega)]
            refine effS_call (.inr (.inr (.inr (.inr (.inr (.inr (.inr (.inl ⟨rfl, u1, B, s, j, rfl, b2, hj, hl, hjl, trivial, fun u3 h3 s3 hr3 => ?_⟩))))))))
            simp only at hr3 ⊢
            have st3 := st2.trans s3 (fun q _ h => h)
            have T3 := T2.step s3 (by omega)
            have F3 := F2.step s3 (by omega)
            have T31 := T3.1
            have F31 := F3.1
            have T32 := T3.2.1
            have F32 := F3.2.1
            simp only [tok0, fltE, List.length_cons, List.length_nil] at T32 F32
            cases hr : txtF s j (j + 1) [] with
            | ok t =>
              rw [hr] at hK hr3
              have b3 := hr3 t rfl
              obtain ⟨r1, r2, r3, r4⟩ := res2 (la := tokE t) (lb := fltE 0 0) st3 T3 F3 (by omega) (by omega) (by omega) rfl rfl
              have b4 := r4 B _ b3 (by omega) (by omega)
              simp only [tokE, fltE] at r1 r2 r3 b4
              refine ⟨by simp (disch := first | omega | (simp only [e_ssz, e_psz, e_hszs, List.length_cons, List.length_nil]; try omega; done)) only [go_sem], ?_⟩
              simp only [resV, tokE, fltE]
              simp (disch := first | omega | (simp only [e_ssz, e_psz, e_hszs, List.length_cons, List.length_nil]; try omega; done)) only [↓reduceIte, go_sem, T32, T3.2.2.1, F32, F3.2.2.1, hsets_hsz, hsets_hfr, r2.at, r3.at, r2.2.1, r3.2.1]
              exact hK _ _ r1 (fun t' ht => by cases ht; exact b4)
            | bad c o' =>
              rw [hr] at hK
              obtain ⟨r1, r2, r3, -⟩ := res2 (la := tok0) (lb := fltE c o') st3 T3 F3 (by omega) (by omega) (by omega) rfl rfl
              simp only [tok0, fltE] at r1 r2 r3
              refine ⟨by simp (disch := first | omega | (simp only [e_ssz, e_psz, e_hszs, List.length_cons, List.length_nil]; try omega; done)) only [go_sem], ?_⟩
              simp only [resV, tok0, fltE]
              simp (disch := first | omega | (simp only [e_ssz, e_psz, e_hszs, List.length_cons, List.length_nil]; try omega; done)) only [↓reduceIte, go_sem, T32, T3.2.2.1, F32, F3.2.2.1, hsets_hsz, hsets_hfr, r2.at, r3.at, r2.2.1, r3.2.1]
              exact hK _ _ r1 (fun t' ht => by cases ht)
          · rw [if_neg hq] at hK
            simp (disch := first | omega | (simp only [e_ssz, e_psz, e_hszs, List.length_cons, List.length_nil]; try omega; done)) only [↓reduceIte, go_sem, eq_false (show ¬ (bat s j : Int) = 34 by omega)]
            rw [sign_find hjl] at hK
            obtain ⟨g1, g2, g3, g4⟩ := G2.1
            obtain ⟨sa, sc, hse, -, -⟩ := g4.sl
            simp (disch := first | omega | (simp only [e_ssz, e_psz, e_hszs, List.length_cons, List.length_nil]; try omega; done)) only [go_sem, hse, eq_true (show 0 < hsz h2 0 by omega), show signsL.length = 11 from rfl]
            obtain ⟨I, hI⟩ : ∃ I : Nat → Env → H → Prop, I = fun i σ h' => σ 0 = .pointer (some ⟨B, 0, none⟩) ∧ σ 2 = .pointer (some ⟨h.size, 0, none⟩) ∧ σ 3 = .pointer (some ⟨h.size + 1, 0, none⟩) ∧ σ 6 = .int .i64 j ∧ σ 73 = .slice sa 11 sc ∧ σ 74 = .int .i64 11 ∧ σ 75 = .int .i64 i ∧ i ≤ 11 ∧ findSg s j signsL = findSg s j (signsL.drop i) ∧
                ∃ u', Step (fun i => i = B) u h u' h' ∧ Rdr u' h' B s j ∧ Blk u' h' h.size tok0 ∧ Blk u' h' (h.size + 1) (fltE 0 0) ∧ IsSl u' h' (.slice sa 11 sc) signsL := ⟨_, rfl⟩
            refine wpS_loop I (fun i => 11 - i) 0 (by
              rw [hI]
              exact ⟨by simp [upd], by simp [upd], by simp [upd], by simp [upd], by simp [upd], by simp [upd], by simp [upd], by omega, rfl, u1, st2, b2, T2, F2, by rw [hse] at g4; exact g4⟩) ?_
            clear st2 b2 T2 F2 G2 g1 g2 g3 g4 b21 T21 F21
            intro i σ h' hy
            rw [hI] at hy
            obtain ⟨e0, e2, e3, e6, e73, e74, e75, hi, hfd, u', st, b, T, F, hs⟩ := hy
            have b01 := b.1; have T01 := T.1; have F01 := F.1
            by_cases hlt : i < 11
            · obtain ⟨x, hx⟩ : ∃ x, signsL[i]? = some x := ⟨signsL[i]'hlt, List.getElem?_eq_getElem hlt⟩
              obtain ⟨pb, po, rfl, hpb, hpu, hpz, hpr⟩ := hs.row i x hx
              rw [rep_sg] at hpr
              simp only [sz_sg, hvs_3, List.cons.injEq, and_true] at hpr hpu hpz
              obtain ⟨p0, p1, p2⟩ := hpr
              have hx11 : x.1.length ≤ 2 := by
                have : ∀ y ∈ signsL, y.1.length ≤ 2 := by decide
                exact this x (List.mem_of_getElem? hx)
              rw [hfd, find_drop hx] at hK
              simp (disch := first | omega | (simp only [e_ssz, e_psz, e_hszs, List.length_cons, List.length_nil]; try omega; done)) only [↓reduceIte, go_sem, lxNext_L1, e0, e6, e73, e74, e75, eq_true (show (i : Int) < 11 by omega), p0, p1, p2, b.at, b.2.1, eq_true (show j ≤ s.length by omega)]
              refine effS_call (.inr (.inr (.inr (.inr (.inr (.inr (.inr (.inr ⟨rfl, s.drop j, x.1, rfl, by rw [List.length_drop]; omega, by omega, ⟨by simp (disch := first | omega | (simp only [e_ssz, e_psz, e_hszs, List.length_cons, List.length_nil]; try omega; done)) only [go_sem], ?_⟩⟩))))))))
              cases hp : x.1.isPrefixOf (s.drop j) with
              | true =>
                rw [hp, if_pos rfl] at hK
                have hpl := (List.isPrefixOf_iff_prefix.1 hp).length_le
                rw [List.length_drop] at hpl
                have st3 := st.setR (o := 1) (v := .int .i64 ((j + x.1.length : Nat) : Int)) (.inr rfl) (by rw [b.2.2.2.1]; exact Nat.zero_le _)
                have b3 : Rdr u' (hset h' B 1 (.int .i64 ((j + x.1.length : Nat) : Int))) B s (j + x.1.length) := b.set (i := 1) (v := .int .i64 ((j + x.1.length : Nat) : Int)) (by simp)
                have ss := Step.set (S := fun i => i = B) u' h' (o := 1) (.int .i64 ((j + x.1.length : Nat) : Int)) (b := B) rfl (by rw [b.2.2.2.1]; exact Nat.zero_le _)
                have T3 := T.step ss (by omega)
                have F3 := F.step ss (by omega)
                obtain ⟨r1, r2, r3, r4⟩ := res2 (la := [.int .i64 x.2.1, str [], .int .i64 0, .int .i64 x.2.2, .int .i64 j, .int .i64 ((j + x.1.length : Nat) : Int)]) (lb := fltE 0 0) st3 T3 F3 (by omega) (by omega) (by omega) rfl rfl
                have b4 := r4 B _ b3 (by omega) (by omega)
                have T31 := T3.1; have F31 := F3.1; have b31 := b3.1; have r21 := r2.1; have r31 := r3.1
                have q1 : (hset h' B 1 (.int .i64 ((j + x.1.length : Nat) : Int))).size = h'.size := e_ssz
                have q2 : (hsets (hset h' B 1 (.int .i64 ((j + x.1.length : Nat) : Int))) h.size 0 [.int .i64 x.2.1, str [], .int .i64 0, .int .i64 x.2.2, .int .i64 j, .int .i64 ((j + x.1.length : Nat) : Int)]).size = h'.size := by rw [hsets_size, e_ssz]
                have T32 := T3.2.1
                have F32 := F3.2.1
                simp only [tok0, fltE, List.length_cons, List.length_nil] at r1 r2 r3 b4 T32 F32 r21 r31
                have ej : ((j : Int) + (x.1.length : Nat)) = ((j + x.1.length : Nat) : Int) := by omega
                simp (disch := first | omega | (simp only [e_ssz, e_psz, e_hszs, List.length_cons, List.length_nil]; try omega; done)) only [↓reduceIte, go_sem, e0, e2, e3, e6, ej, b.2.1, b.2.2.1, b3.at, b3.2.1, T32, T3.2.2.1, F32, F3.2.2.1, hsets_hsz, hsets_hfr, r2.at, r3.at, r2.2.1, r3.2.1]
                exact hK _ _ r1.pushR (fun t ht => by cases ht; exact b4.pushR)
              | false =>
                rw [hp] at hK
                simp only [Bool.false_eq_true, if_false] at hK
                have hfd' := hfd
                rw [find_drop hx, hp] at hfd'
                simp only [Bool.false_eq_true, if_false] at hfd'
                simp (disch := first | omega | (simp only [e_ssz, e_psz, e_hszs, List.length_cons, List.length_nil]; try omega; done)) only [↓reduceIte, go_sem, e75]
                refine ⟨i + 1, ?_, by omega⟩
                rw [hI]
                exact ⟨by simp [upd, e0], by simp [upd, e2], by simp [upd, e3], by simp [upd, e6], by simp [upd, e73], by simp [upd, e74], by simp [upd], by omega, hfd', _, st.pushR, b.pushR, T.pushR, F.pushR, hs.mono (Step.push0 S0 u' h' _ _).ge⟩
            · obtain rfl : i = 11 := by omega
              have hbad : findSg s j signsL = .bad 10 j := hfd
              rw [hbad] at hK
              simp (disch := first | omega | (simp only [e_ssz, e_psz, e_hszs, List.length_cons, List.length_nil]; try omega; done)) only [↓reduceIte, go_sem, lxNext_L1, e0, e6, e74, e75]
              refine effS_call (.inr (.inl ⟨rfl, u', _, 10, j, rfl, fun u4 h4 s4 => ⟨by simp (disch := first | omega | (simp only [e_ssz, e_psz, e_hszs, List.length_cons, List.length_nil]; try omega; done)) only [go_sem], ?_⟩⟩))
              have T4 := T.step0 s4
              have F4 := F.step0 s4
              obtain ⟨r1, r2, r3, -⟩ := res2 (la := tok0) (lb := fltE 10 j) (st.trans0 s4) T4 F4 (by omega) (by omega) (by omega) rfl rfl
              have T41 := T4.1
              have F41 := F4.1
              simp only [tok0, fltE] at r1 r2 r3
              simp (disch := first | omega | (simp only [e_ssz, e_psz, e_hszs, List.length_cons, List.length_nil]; try omega; done)) only [↓reduceIte, go_sem, e2, e3, tok0, fltE, T4.2.1, T4.2.2.1, F4.2.1, F4.2.2.1, hsets_hsz, hsets_hfr, r2.at, r3.at, r2.2.1, r3.2.1]
              exact hK _ _ r1 (fun t ht => by cases ht)
end Go.Proofs.YtlenjlidahnklaaDoor
