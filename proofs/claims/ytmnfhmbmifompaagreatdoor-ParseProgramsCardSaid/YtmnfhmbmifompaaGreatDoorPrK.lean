/- The document's answer, walked: check. -/
import Derived.Test.YtmnfhmbmifompaaGreatDoorPrD
namespace Edict
theorem moveF_range {f s k : Int} (h : moveF f s k ≠ -1) : 0 ≤ moveF f s k ∧ moveF f s k ≤ 26 := by
  revert h
  unfold moveF behF
  repeat' split
  all_goals first | (intro h; exact ⟨by decide, by decide⟩) | (intro h; exact absurd rfl h) | (intro h; omega)
theorem tk_le {s k : Int} {c l t n : Nat} (h : c ≤ n ∧ l ≤ n ∧ t ≤ n) : tkC s k c ≤ n + 1 ∧ tkL s k l ≤ n + 1 ∧ tkT s k t ≤ n + 1 := by
  unfold tkC tkL tkT
  refine ⟨?_, ?_, ?_⟩
  · split <;> omega
  · split
    · omega
    · split <;> omega
  · split
    · omega
    · split <;> omega
def checkF (f : Int) (src : List UInt8) : Flt := if 65536 < src.length then (1, 0) else chkF f (badF src) f 0 0 0 (scanF src).1
end Edict
namespace Go.Proofs.YtmnfhmbmifompaaGreatDoor
open Go Go.Ev Edict
def C_rCheck (vs : List Value) (h : H) (K : Value → H → Prop) : Prop := ∃ (u : U) (src : List UInt8) (f : Int), vs = [str src, .int .i64 f] ∧ src.length ≤ 9223372036854775807 ∧ (0 ≤ f ∧ f ≤ 26) ∧
  ((checkF f src).1 ≠ 0 → ∀ u' h', Step S0 u h u' h' → K (.tuple #[.slice none 0 0, fltV (checkF f src)]) h') ∧
  ((checkF f src).1 = 0 → ∀ u' h' w, Step S0 u h u' h' → Own h.size u' h' w (scanF src).1 → K (.tuple #[w, fltV (0, 0)]) h')
def G_rCk : Ctr := fun fn vs h K _ => (fn = 30 ∧ C_rscan vs h K) ∨ (fn = 31 ∧ C_rpMove vs h K) ∨ (fn = 32 ∧ C_rTake vs h K) ∨ (fn = 33 ∧ C_rOver vs h K)
theorem G_rCk_ok : GOk Tryz.prog G_rCk := by
  rintro fn vs h K KP (⟨rfl, hC⟩ | ⟨rfl, hC⟩ | ⟨rfl, hC⟩ | ⟨rfl, hC⟩)
  · exact rfScan_ok hC
  · exact rpMove_ok hC
  · exact rpTake_ok hC
  · exact rpOver_ok hC
theorem rpCheck_ok {vs : List Value} {h : H} {K : Value → H → Prop} {KP : List PanicEntry → H → Prop} (hC : C_rCheck vs h K) : HCX Tryz.prog 15 vs h K KP := by
  obtain ⟨u, src, f, rfl, hl, hf, hKE, hKO⟩ := hC
  refine rpCheck_H G_rCk G_rCk_ok _ _ ?_
  have s1 := Step.push0 S0 u h #[.int .i64 0, .int .i64 0, .int .i64 0] 25
  have B1 := Blk.new (u := u) (h := h) [.int .i64 0, .int .i64 0, .int .i64 0] 25
  obtain ⟨h1, hh1⟩ : ∃ h1, h1 = h.push (.cells #[.int .i64 0, .int .i64 0, .int .i64 0] 25) := ⟨_, rfl⟩
  obtain ⟨u1, hu1⟩ : ∃ u1, u1 = ub u h.size 0 := ⟨_, rfl⟩
  have B1' : Blk u1 h1 h.size [.int .i64 0, .int .i64 0, .int .i64 0] := by rw [hu1, hh1]; exact B1
  rw [← hh1, ← hu1] at s1
  clear B1
  have hB1 := B1'.1
  unfold checkF at hKE hKO
  by_cases hlong : 65536 < src.length
  · rw [if_pos hlong] at hKE
    have w := B1'.sets (l := [.int .i64 1, .int .i64 0, .int .i64 0]) rfl
    have s2 := s1.setsR (b := h.size) (o := 0) (l := [.int .i64 1, .int .i64 0, .int .i64 0]) (.inl (Nat.le_refl _)) (by rw [B1'.2.2.2.1]; exact Nat.zero_le _) (by rw [B1'.2.1]; exact Nat.le_refl _)
    have hK' := hKE (show (1 : Int) ≠ 0 by decide) _ _ s2
    simp only [fltV] at hK'
    simp (disch := first | omega | (simp only [e_ssz, e_psz, e_hszs, List.length_cons, List.length_nil]; try omega; done)) only [↓reduceIte, go_sem, rpCheck_S, rpCheck_E, ← hh1, eq_true (show (65536 : Int) < (src.length : Nat) by omega), B1'.2.1, B1'.2.2.1, w.at, w.2.1]
    exact hK'
  rw [if_neg hlong] at hKE hKO
  simp (disch := first | omega | (simp only [e_ssz, e_psz, e_hszs, List.length_cons, List.length_nil]; try omega; done)) only [↓reduceIte, go_sem, rpCheck_S, rpCheck_E, ← hh1, eq_false (show ¬ (65536 : Int) < (src.length : Nat) by omega)]
  refine effS_call (.inl ⟨rfl, u1, src, rfl, hl, fun u2 h2 v s2 o2 => ⟨by simp (disch := first | omega | (simp only [e_ssz, e_psz, e_hszs, List.length_cons, List.length_nil]; try omega; done)) only [go_sem], ?_⟩⟩)
  have hgood := good_src (src := src) (by omega)
  have hbe : badF src = ((scanF src).2.1, ((scanF src).2.2 : Int)) := rfl
  obtain ⟨L, hL⟩ : ∃ L, L = (scanF src).1 := ⟨_, rfl⟩
  obtain ⟨c2, hc2⟩ : ∃ c, c = (scanF src).2.1 := ⟨_, rfl⟩
  obtain ⟨p2, hp2⟩ : ∃ p, p = (scanF src).2.2 := ⟨_, rfl⟩
  have hLl : L.length ≤ 65537 := by rw [hL]; exact scanF_len src
  rw [hbe, ← hL, ← hc2, ← hp2] at hKE hKO hgood
  rw [← hL] at o2
  rw [← hc2, ← hp2]
  obtain ⟨ta, tc, rfl, m1, m2⟩ := o2.sl
  obtain ⟨h3, h4, u4, hh3, hh4, B3, B4, s4, hz4⟩ := boxed u2 h2 [.int .i64 0, .int .i64 0, .int .i64 0] (fltE c2 p2) 25 rfl
  have F4 := (B1'.step0 s2).step0 s4
  have o4 := o2.step0 s4
  have st4 := (s1.trans0 s2).trans0 s4
  have B31 := B3.1
  have B41 := B4.1
  have hz2 : h1.size ≤ h2.size := s2.ge.sz
  have s5 := Step.push0 S0 u4 h4 #[.int .i64 0, .int .i64 0, .int .i64 0] 73
  have B5 := Blk.new (u := u4) (h := h4) [.int .i64 0, .int .i64 0, .int .i64 0] 73
  obtain ⟨h5, hh5⟩ : ∃ h5, h5 = h4.push (.cells #[.int .i64 0, .int .i64 0, .int .i64 0] 73) := ⟨_, rfl⟩
  obtain ⟨u5, hu5⟩ : ∃ u5, u5 = ub u4 h4.size 0 := ⟨_, rfl⟩
  have B5' : Blk u5 h5 h4.size [.int .i64 0, .int .i64 0, .int .i64 0] := by rw [hu5, hh5]; exact B5
  rw [← hh5, ← hu5] at s5
  clear B5
  have F5 := F4.step0 s5
  have E5 := B4.step0 s5
  have o5 := o4.step0 s5
  have st5 := st4.trans0 s5
  simp only [fltE] at hh4 B4 E5 ⊢
  simp (disch := first | omega | (simp only [e_ssz, e_psz, e_hszs, List.length_cons, List.length_nil]; try omega; done)) only [↓reduceIte, go_sem, ← hh3, ← hh4, B3.2.1, B3.2.2.1, ← hh5]
  obtain ⟨eb, heb⟩ : ∃ eb, eb = h2.size := ⟨_, rfl⟩
  obtain ⟨cb, hcb⟩ : ∃ cb, cb = h4.size := ⟨_, rfl⟩
  have hbs : h.size < eb ∧ eb < cb := by omega
  rw [← heb] at E5 ⊢
  rw [← hcb] at B5' ⊢
  obtain ⟨F, hF⟩ : ∃ F, F = chkF f (c2, (p2 : Int)) f 0 0 0 L := ⟨_, rfl⟩
  rw [← hF] at hKE hKO
  have i5 := o5.isSl
  have hown : ∀ b, OwnB (.slice ta L.length tc) b → b ≠ h.size ∧ b ≠ cb := fun b q => ⟨by have := o2.ge q; omega, by have := o2.lt q; omega⟩
  obtain ⟨I, hI⟩ : ∃ I : Nat → Env → H → Prop, I = fun k σ h' => ∃ (u' : U) (s : Int) (c l t : Nat), σ 1 = .int .i64 f ∧ σ 5 = .pointer (some ⟨h.size, 0, none⟩) ∧ σ 6 = .slice ta L.length tc ∧ σ 7 = .pointer (some ⟨eb, 0, none⟩) ∧ σ 8 = .int .i64 s ∧ σ 9 = .pointer (some ⟨cb, 0, none⟩) ∧ σ 24 = .slice ta L.length tc ∧ σ 25 = .int .i64 (L.length : Nat) ∧ σ 26 = .int .i64 k ∧ k ≤ L.length ∧ (0 ≤ s ∧ s ≤ 26) ∧ (c ≤ k ∧ l ≤ k ∧ t ≤ k) ∧ Step S0 u h u' h' ∧ Blk u' h' h.size [.int .i64 0, .int .i64 0, .int .i64 0] ∧ Blk u' h' eb [.int .i64 c2, .int .i64 0, .int .i64 (p2 : Int)] ∧ Blk u' h' cb [.int .i64 c, .int .i64 l, .int .i64 t] ∧ Own h.size u' h' (.slice ta L.length tc) L ∧ chkF f (c2, (p2 : Int)) s c l t (L.drop k) = F := ⟨_, rfl⟩
  refine wpS_loop I (fun j => L.length - j) 0 (by rw [hI]; exact ⟨u5, f, 0, 0, 0, by simp [upd], by simp [upd], by simp [upd], by simp [upd], by simp [upd], by simp [upd], by simp [upd], by simp [upd], by simp [upd], by omega, hf, by omega, st5, F5, E5, B5', o5.mono (by omega), by rw [List.drop_zero, hF]⟩) ?_
  clear hh3 hh4 hh5 B3 B31 B41 B4 B5' E5 F5 F4 o5 o4 o2 st4 st5 i5 s5 s4 hh1 hz4 hF
  have err : ∀ (u2 : U) (h2 : H) (e o : Int), Step S0 u h u2 h2 → Blk u2 h2 h.size [.int .i64 0, .int .i64 0, .int .i64 0] → F = (e, o) → e ≠ 0 → Blk u2 (hsets h2 h.size 0 [.int .i64 e, .int .i64 0, .int .i64 o]) h.size [.int .i64 e, .int .i64 0, .int .i64 o] ∧ K (.tuple #[.slice none 0 0, .agg #[.int .i64 e, .int .i64 0, .int .i64 o]]) (hsets h2 h.size 0 [.int .i64 e, .int .i64 0, .int .i64 o]) := fun u2 h2 e o s B he h0 => by
    refine ⟨B.sets rfl, ?_⟩
    have := hKE (by rw [he]; exact h0) _ _ (s.setsR (b := h.size) (o := 0) (l := [.int .i64 e, .int .i64 0, .int .i64 o]) (.inl (Nat.le_refl _)) (by rw [B.2.2.2.1]; exact Nat.zero_le _) (by rw [B.2.1]; exact Nat.le_refl _))
    rw [he] at this
    exact this
  intro k σ h' hy
  rw [hI] at hy
  obtain ⟨u', s, c, l, t, e1, e5, e6, e7, e8, e9, e24, e25, e26, hk', hs, hcl, st, Fb, Eb, Cb, ow, hA⟩ := hy
  have hF1 := Fb.1
  have hE1 := Eb.1
  have hC1 := Cb.1
  by_cases hlt : k < L.length
  case neg =>
    rw [List.drop_eq_nil_of_le (by omega), chkF] at hA
    by_cases hc0 : c2 = 0
    · have hb : (c2, (p2 : Int)) = ((0 : Int), (0 : Int)) := by
        rcases hgood with q | q
        · exact absurd hc0 q.1
        · exact q.1
      have w := Fb.sets (l := [.int .i64 0, .int .i64 0, .int .i64 0]) rfl
      have s7 := Step.sets (S := fun b => b = h.size) u' h' (b := h.size) (o := 0) [.int .i64 0, .int .i64 0, .int .i64 0] rfl (by rw [Fb.2.2.2.1]; exact Nat.zero_le _) (by rw [Fb.2.1]; exact Nat.le_refl _)
      have hK' := hKO (by rw [← hA, hb]) _ _ _ (st.trans s7 (fun b hb q => by omega)) (ow.step s7 (fun b q q' => (hown b q).1 q'))
      simp only [fltV] at hK'
      simp (disch := first | omega | (simp only [e_ssz, e_psz, e_hszs, List.length_cons, List.length_nil]; try omega; done)) only [↓reduceIte, go_sem, rpCheck_L1, e5, e6, e7, e25, e26, eq_false (show ¬ (k : Int) < (L.length : Nat) by omega), Eb.at, Eb.2.1, hc0, Fb.2.1, Fb.2.2.1, w.at, w.2.1]
      exact hK'
    · obtain ⟨w, hK'⟩ := err u' h' c2 p2 st Fb hA.symm hc0
      simp (disch := first | omega | (simp only [e_ssz, e_psz, e_hszs, List.length_cons, List.length_nil]; try omega; done)) only [↓reduceIte, go_sem, rpCheck_L1, e5, e7, e25, e26, eq_false (show ¬ (k : Int) < (L.length : Nat) by omega), Eb.at, Eb.2.1, eq_false hc0, Fb.2.1, Fb.2.2.1, w.at, w.2.1]
      exact hK'
  obtain ⟨x, hx⟩ : ∃ x, L[k]? = some x := ⟨L[k], by simp [hlt]⟩
  obtain ⟨r, hr⟩ : ∃ r, L.drop k = x :: r := ⟨L.drop (k + 1), by rw [List.drop_eq_getElem_cons hlt]; congr 1; rw [List.getElem?_eq_getElem hlt] at hx; exact Option.some.inj hx⟩
  have hr1 := (drop_cons hr).2.2
  rw [hr] at hA
  have iw := ow.isSl
  obtain ⟨pb, po, rfl, hpb, hpu, hpz, hpr⟩ := iw.row k x hx
  rw [rep_tok] at hpr
  simp only [tokE, sz_tok, hvs_6, List.cons.injEq, and_true] at hpr hpu hpz
  obtain ⟨p0, p1, p2', p3, p4, p5⟩ := hpr
  obtain ⟨h5', h6, u6, hh5, hh6, B5, B6, s6, hz6⟩ := boxed u' h' [.int .i64 0, str [], .int .i64 0, .int .i64 0, .int .i64 0, .int .i64 0] (tokE x) 40 rfl
  simp only [tokE] at hh6 B6
  have F6 := Fb.step0 s6
  have E6 := Eb.step0 s6
  have C6 := Cb.step0 s6
  have ow6 := ow.step0 s6
  have st6 := st.trans0 s6
  have B51 := B5.1
  have B61 := B6.1
  have hF6 := F6.1
  have hC6 := C6.1
  simp (disch := first | omega | (simp only [e_ssz, e_psz, e_hszs, List.length_cons, List.length_nil]; try omega; done)) only [↓reduceIte, go_sem, rpCheck_L1, e1, e8, e24, e25, e26, eq_true (show (k : Int) < (L.length : Nat) by omega), p0, p1, p2', p3, p4, p5, ← hh5, ← hh6, B5.2.1, B5.2.2.1, B6.at, B6.2.1]
  refine effS_call (.inr (.inl ⟨rfl, f, s, x.1, rfl, hs, ⟨by simp (disch := first | omega | (simp only [e_ssz, e_psz, e_hszs, List.length_cons, List.length_nil]; try omega; done)) only [go_sem], ?_⟩⟩))
  obtain ⟨n, hn⟩ : ∃ n, n = moveF f s (tK x) := ⟨_, rfl⟩
  have hn' : moveF f s x.1 = n := hn.symm
  rw [hn']
  by_cases hn1 : n = -1
  · rw [chk_none (by rw [← hn]; exact hn1)] at hA
    by_cases hx0 : x.1 = 0
    · have hre : refuseD x = (21, x.2.2.2.2.1) := by unfold refuseD tK tO; rw [if_pos hx0]
      rw [hre] at hA
      obtain ⟨w, hK'⟩ := err u6 h6 21 _ st6 F6 hA.symm (by decide)
      simp (disch := first | omega | (simp only [e_ssz, e_psz, e_hszs, List.length_cons, List.length_nil]; try omega; done)) only [↓reduceIte, go_sem, e5, eq_true hn1, eq_true hx0, B6.at, B6.2.1, F6.2.1, F6.2.2.1, w.at, w.2.1]
      exact hK'
    · have hre : refuseD x = (20, x.2.2.2.2.1) := by unfold refuseD tK tO; rw [if_neg hx0]
      rw [hre] at hA
      obtain ⟨w, hK'⟩ := err u6 h6 20 _ st6 F6 hA.symm (by decide)
      simp (disch := first | omega | (simp only [e_ssz, e_psz, e_hszs, List.length_cons, List.length_nil]; try omega; done)) only [↓reduceIte, go_sem, e5, eq_true hn1, eq_false hx0, B6.at, B6.2.1, F6.2.1, F6.2.2.1, w.at, w.2.1]
      exact hK'
  have hnr := moveF_range (f := f) (s := s) (k := tK x) (by rw [← hn]; exact hn1)
  rw [← hn] at hnr
  simp (disch := first | omega | (simp only [e_ssz, e_psz, e_hszs, List.length_cons, List.length_nil]; try omega; done)) only [↓reduceIte, go_sem, e8, e9, eq_false hn1, C6.at, C6.2.1, B6.at, B6.2.1]
  refine effS_call (.inr (.inr (.inl ⟨rfl, u6, c, l, t, s, x.1, rfl, by omega, by omega, by omega, fun u7 h7 s7 => ⟨by simp (disch := first | omega | (simp only [e_ssz, e_psz, e_hszs, List.length_cons, List.length_nil]; try omega; done)) only [go_sem], ?_⟩⟩)))
  obtain ⟨c', hc'⟩ : ∃ c', c' = tkC s (tK x) c := ⟨_, rfl⟩
  obtain ⟨l', hl'⟩ : ∃ l', l' = tkL s (tK x) l := ⟨_, rfl⟩
  obtain ⟨t', ht'⟩ : ∃ t', t' = tkT s (tK x) t := ⟨_, rfl⟩
  have hle := tk_le (s := s) (k := tK x) hcl
  rw [← hc', ← hl', ← ht'] at hle
  have q1 : tkC s x.1 c = c' := hc'.symm
  have q2 : tkL s x.1 l = l' := hl'.symm
  have q3 : tkT s x.1 t = t' := ht'.symm
  rw [q1, q2, q3]
  have F7 := F6.step0 s7
  have E7 := E6.step0 s7
  have C7 := C6.step0 s7
  have B7 := B6.step0 s7
  have ow7 := ow6.step0 s7
  have st7 := st6.trans0 s7
  have hC7 := C7.1
  have C8 := C7.sets (l := [.int .i64 c', .int .i64 l', .int .i64 t']) rfl
  have s8 := Step.sets (S := fun b => b = cb) u7 h7 (b := cb) (o := 0) [.int .i64 c', .int .i64 l', .int .i64 t'] rfl (by rw [C7.2.2.2.1]; exact Nat.zero_le _) (by rw [C7.2.1]; exact Nat.le_refl _)
  obtain ⟨h8, hh8⟩ : ∃ h8, h8 = hsets h7 cb 0 [.int .i64 c', .int .i64 l', .int .i64 t'] := ⟨_, rfl⟩
  rw [← hh8] at C8 s8
  have F8 := F7.step s8 (by omega)
  have E8 := E7.step s8 (by omega)
  have B8 := B7.step s8 (by omega)
  have ow8 := ow7.step s8 (fun b q q' => (hown b q).2 q')
  have st8 := st7.trans s8 (fun b hb q => by omega)
  have hC8 := C8.1
  simp only [cntV]
  simp (disch := first | omega | (simp only [e_ssz, e_psz, e_hszs, List.length_cons, List.length_nil]; try omega; done)) only [↓reduceIte, go_sem, e9, e1, C7.2.1, C7.2.2.1, ← hh8, C8.at, C8.2.1]
  refine effS_call (.inr (.inr (.inr ⟨rfl, u7, c', l', t', f, rfl, fun u9 h9 s9 => ⟨by simp (disch := first | omega | (simp only [e_ssz, e_psz, e_hszs, List.length_cons, List.length_nil]; try omega; done)) only [go_sem], ?_⟩⟩)))
  have F9 := F8.step0 s9
  have E9 := E8.step0 s9
  have C9 := C8.step0 s9
  have B9 := B8.step0 s9
  have ow9 := ow8.step0 s9
  have st9 := st8.trans0 s9
  have hF9 := F9.1
  have hB9 := B9.1
  obtain ⟨e, he⟩ : ∃ e, e = overF f c' l' t' := ⟨_, rfl⟩
  rw [← he]
  by_cases he0 : e = 0
  · rw [chk_on hn.symm hn1 hc'.symm hl'.symm ht'.symm (by rw [← he]; exact he0)] at hA
    simp (disch := first | omega | (simp only [e_ssz, e_psz, e_hszs, List.length_cons, List.length_nil]; try omega; done)) only [↓reduceIte, go_sem, eq_true he0, e26]
    refine ⟨k + 1, ?_, by omega⟩
    rw [hI]
    refine ⟨u9, n, c', l', t', ?_, ?_, ?_, ?_, ?_, ?_, ?_, ?_, ?_, hlt, hnr, hle, st9, F9, E9, C9, ow9, by rw [hr1]; exact hA⟩ <;> simp [upd, e1, e5, e6, e7, e9, e24, e25]
  · rw [chk_over (by rw [← hn]; exact hn1) (by rw [← hc', ← hl', ← ht', ← he]) he0] at hA
    obtain ⟨w, hK'⟩ := err u9 h9 e _ st9 F9 hA.symm he0
    simp only [tO] at w hK'
    simp (disch := first | omega | (simp only [e_ssz, e_psz, e_hszs, List.length_cons, List.length_nil]; try omega; done)) only [↓reduceIte, go_sem, e5, eq_false he0, B9.at, B9.2.1, F9.2.1, F9.2.2.1, w.at, w.2.1]
    exact hK'
end Go.Proofs.YtmnfhmbmifompaaGreatDoor
