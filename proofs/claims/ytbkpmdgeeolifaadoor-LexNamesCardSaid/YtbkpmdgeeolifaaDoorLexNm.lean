/- The law LexNames. -/
import Derived.Test.YtbkpmdgeeolifaaDoorLexR
import Derived.Test.YtbkpmdgeeolifaaDoorLawT
import Derived.Test.YtbkpmdgeeolifaaDoorLexL2
namespace Edict
open Go
def namesT : List UInt8 := [97, 32, 88, 32, 49, 32, 34, 116, 34, 32, 40, 32, 41, 32, 44, 32, 46, 32, 58, 45, 32, 110, 111, 116, 32, 61, 32, 33, 61, 32, 60, 32, 60, 61, 32, 62, 32, 62, 61]
def kindsL (l : List Tok) : List Int := l.map fun t => t.1 * 10 + t.2.2.2.1
def wantL : List Int := [10, 20, 30, 40, 50, 60, 70, 80, 90, 100, 111, 112, 113, 114, 115, 116, 0]
theorem names_scan : kindsL (scanF namesT).1 = wantL := by kernel_rfl
theorem names_code : (scanF namesT).2.1 = 0 := by kernel_rfl
theorem n65 : scanF (List.replicate 65 97) = ([], 14, 0) := by kernel_rfl
theorem n258 : scanF (34 :: (List.replicate 256 97 ++ [34])) = ([], 15, 0) := by kernel_rfl
theorem n10 : scanF [35] = ([], 10, 0) := by kernel_rfl
theorem n11 : scanF [34] = ([], 11, 0) := by kernel_rfl
theorem n12 : scanF [34, 92, 113] = ([], 12, 1) := by kernel_rfl
theorem n13 : scanF [49, 97] = ([], 13, 0) := by kernel_rfl
theorem n16 : scanF [47, 42] = ([], 16, 0) := by kernel_rfl
theorem n64 : scanF (List.replicate 64 97) = ([(1, List.replicate 64 97, 0, 0, 0, 64), endT 64], 0, 0) := by kernel_rfl
theorem nbig {s : List UInt8} (h : 65536 < s.length) : scanF s = ([], 1, 0) := by unfold scanF; rw [if_pos h]
theorem bat_rep {n i : Nat} (h : i < n) : bat (List.replicate n 97) i = 97 := by
  unfold bat; rw [List.getD_eq_getElem?_getD, List.getElem?_replicate, if_pos h]; rfl
theorem nlong {n : Nat} (h : 64 < n) (h2 : n ≤ 65536) : scanF (List.replicate n 97) = ([], 14, 0) := by
  have hl : (List.replicate n (97 : UInt8)).length = n := by simp
  rw [scanF_K (by omega)]
  refine scanK_bad ?_
  have hb := bat_rep (n := n) (i := 0) (by omega)
  have hr : runF (List.replicate n 97) 0 = n := runF_is (Nat.zero_le _) (by omega) (fun i _ hi => by rw [bat_rep hi]; decide) (fun q => by omega)
  unfold nextF
  rw [gap_at (by rw [hb]; decide)]
  simp only [if_true]
  unfold tokF
  rw [if_neg (by omega), hb, if_neg (by decide), if_neg (fun q => absurd q.1 (by decide)), if_pos (by decide)]
  unfold wordF
  rw [hr, if_pos (by omega)]
theorem ite_ok {q : Prop} [Decidable q] {k op : Int} {o n : Nat} {x : TR} {t : Tok} (h : (if q then sgn k op o n else x) = .ok t) : t = (k, [], 0, op, (o : Int), ((o + n : Nat) : Int)) ∨ x = .ok t := by
  split at h
  · cases h; exact .inl rfl
  · exact .inr h
def Small (t : Tok) : Prop := 0 ≤ t.1 ∧ t.1 ≤ 11 ∧ 0 ≤ t.2.2.2.1 ∧ t.2.2.2.1 ≤ 6
theorem mkS {c : Int} {v : List UInt8} {n p o e : Int} (h : 0 ≤ c ∧ c ≤ 11 ∧ 0 ≤ p ∧ p ≤ 6) : Small (c, v, n, p, o, e) := h
theorem tok_small {s : List UInt8} {o : Nat} {t : Tok} (h : tokF s o = .ok t) : Small t := by
  unfold tokF at h
  split at h
  · cases h; exact mkS (by decide)
  split at h
  · unfold intF at h
    repeat' split at h
    all_goals first | (cases h; done) | (cases h; exact mkS (by decide))
  split at h
  · unfold intF at h
    repeat' split at h
    all_goals first | (cases h; done) | (cases h; exact mkS (by decide))
  split at h
  · unfold wordF at h
    repeat' split at h
    all_goals first | (cases h; done) | (cases h; exact mkS (by decide))
  split at h
  · obtain ⟨e, v, rfl, -, -⟩ := txt_ok h; exact mkS (by decide)
  unfold signF at h
  iterate 11
    rcases ite_ok h with rfl | h
    · exact mkS (by decide)
  cases h
theorem scan_small {s : List UInt8} : ∀ t ∈ (scanF s).1, Small t := by
  by_cases h16 : s.length ≤ 65536
  case neg => rw [nbig (by omega)]; intro t ht; cases ht
  rw [scanF_K h16]
  have key : ∀ (l : List Tok) (k : Nat) (f : Int × Nat), k ≤ s.length → scanK s k = (l, f) → ∀ t ∈ l, Small t := by
    intro l
    induction l with
    | nil => intro k f _ _ t ht; cases ht
    | cons x l ih =>
      intro k f hk h t ht
      obtain ⟨h1, h2⟩ := scan_cons hk h
      have hx : Small x := by
        unfold nextF at h1
        split at h1
        · exact tok_small h1
        · cases h1
      rcases List.mem_cons.1 ht with hx' | ht'
      · rw [hx']; exact hx
      · rcases h2 with ⟨-, rfl, -⟩ | ⟨h3, h4⟩
        · cases ht'
        · obtain ⟨c, v, n, p, o, e, rfl, q1, q2, q3, q4⟩ := next_ok hk h1
          exact ih e f q2 h4 t ht'
  intro t ht
  exact key _ 0 (scanK s 0).2 (Nat.zero_le _) rfl t ht
end Edict
namespace Go.Proofs.YtbkpmdgeeolifaaDoor
open Go Go.Ev Edict
def C_kinds (vs : List Value) (h : H) (K : Value → H → Prop) : Prop := ∃ (u : U) (s : List UInt8), vs = [str s] ∧ s.length ≤ 9223372036854775807 ∧ LxG u h ∧ ∀ u' h' v, Step S0 u h u' h' → Own h.size u' h' v (kindsL (scanF s).1) → K (.tuple #[v, .int .i64 (scanF s).2.1]) h'
def G_kinds : Ctr := fun f vs h K _ => f = 21 ∧ C_scan vs h K
theorem G_kinds_ok : GOk Tryd.prog G_kinds := by
  rintro f vs h K KP ⟨rfl, hC⟩; exact lxScan_ok hC
theorem lwKinds_ok {vs : List Value} {h : H} {K : Value → H → Prop} {KP : List PanicEntry → H → Prop} (hC : C_kinds vs h K) : HCX Tryd.prog 19 vs h K KP := by
  obtain ⟨u, s, rfl, hl, hG, hK⟩ := hC
  refine lwKinds_H G_kinds G_kinds_ok _ ?_
  have hlen := scanF_len s
  have hsm := scan_small (s := s)
  obtain ⟨c, hc⟩ : ∃ c, c = (scanF s).2.1 := ⟨_, rfl⟩
  obtain ⟨p, hp⟩ : ∃ p, p = (scanF s).2.2 := ⟨_, rfl⟩
  obtain ⟨L, hL⟩ : ∃ L, L = (scanF s).1 := ⟨_, rfl⟩
  rw [← hc, ← hL] at hK
  rw [← hL] at hlen hsm
  simp (disch := first | omega | (simp only [e_ssz, e_psz, e_hszs, List.length_cons, List.length_nil]; try omega; done)) only [↓reduceIte, go_sem, lwKinds_S, lwKinds_E]
  refine effS_call ⟨rfl, u, s, rfl, hl, hG, fun u2 h2 w s2 o2 => ⟨by simp (disch := first | omega | (simp only [e_ssz, e_psz, e_hszs, List.length_cons, List.length_nil]; try omega; done)) only [go_sem], ?_⟩⟩
  rw [← hL] at o2
  obtain ⟨wa, wc, rfl, q1, q2⟩ := o2.sl
  rw [← hc, ← hp]
  have A3 := Blk.new (u := u2) (h := h2) (fltE c p) 25
  have s3 := Step.push0 S0 u2 h2 (fltE c p).toArray 25
  have st3 := s2.trans0 s3
  have o3 := (o2.step0 s3).isSl
  simp only [fltE] at A3 s3 st3 o3
  simp only [fltE]
  simp (disch := first | omega | (simp only [e_ssz, e_psz, e_hszs, List.length_cons, List.length_nil]; try omega; done)) only [↓reduceIte, go_sem]
  obtain ⟨h3, hh3⟩ : ∃ h3, h3 = h2.push (.cells #[.int .i64 c, .int .i64 0, .int .i64 (p : Int)] 25) := ⟨_, rfl⟩
  obtain ⟨u3, hu3⟩ : ∃ u3, u3 = ub u2 h2.size 0 := ⟨_, rfl⟩
  rw [← hh3, ← hu3] at A3 s3 st3 o3
  rw [← hh3]
  have hs3 : h3.size = h2.size + 1 := by rw [hh3]; simp
  have hh2 : h.size ≤ h2.size := s2.ge.sz
  clear hh3 hu3
  obtain ⟨I, hI⟩ : ∃ I : Nat → Env → H → Prop, I = fun i σ h' => ∃ (u' : U) (v : Value), σ 4 = .slice wa L.length wc ∧ σ 5 = .pointer (some ⟨h2.size, 0, none⟩) ∧ σ 6 = v ∧ σ 7 = .int .i64 i ∧ i ≤ L.length ∧ Step S0 u3 h3 u' h' ∧ Own h3.size u' h' v (kindsL (L.take i)) := ⟨_, rfl⟩
  refine wpS_loop I (fun j => L.length - j) 0 (by rw [hI]; exact ⟨u3, _, by simp [upd], by simp [upd], by simp [upd], by simp [upd], by omega, Step.refl _ _ _, .nil _ _ _⟩) ?_
  intro i σ h' hy
  rw [hI] at hy
  obtain ⟨u', v, e4, e5, e6, e7, hi, st', w⟩ := hy
  obtain ⟨a6, c6, rfl, m1, m2⟩ := w.sl
  have i' := o3.mono st'.ge
  have A' := A3.step0 st'
  have A'1 := A'.1
  by_cases hlt : i < L.length
  case neg =>
    rw [List.take_of_length_le (by omega)] at w e6
    simp (disch := first | omega | (simp only [e_ssz, e_psz, e_hszs, List.length_cons, List.length_nil]; try omega; done)) only [↓reduceIte, go_sem, lwKinds_L1, e4, e5, e6, e7, hlt, A'.at, A'.2.1]
    exact hK _ _ _ (st3.trans0 st') (w.mono (by omega))
  obtain ⟨t, ht⟩ : ∃ t, L[i]? = some t := ⟨L[i], by simp [hlt]⟩
  obtain ⟨t1, t2, t3, t4⟩ := hsm t (List.mem_of_getElem? ht)
  obtain ⟨pb, po, rfl, hpb, hpu, hpz, hpr⟩ := i'.row i t ht
  rw [rep_tok] at hpr
  simp only [tokE, sz_tok, hvs_6, List.cons.injEq, and_true] at hpr hpu hpz
  obtain ⟨p0, p1, p2, p3, p4, p5⟩ := hpr
  have hkl : (kindsL (L.take i)).length = i := by unfold kindsL; rw [List.length_map, List.length_take]; omega
  obtain ⟨acc, hacc⟩ : ∃ acc, acc = kindsL (L.take i) := ⟨_, rfl⟩
  have hacc2 : acc ++ [t.1 * 10 + t.2.2.2.1] = kindsL (L.take (i + 1)) := by rw [hacc, List.take_add_one, ht]; simp [kindsL]
  rw [← hacc] at w e6 hkl m1
  simp (disch := first | omega | (simp only [e_ssz, e_psz, e_hszs, List.length_cons, List.length_nil]; try omega; done)) only [↓reduceIte, go_sem, lwKinds_L1, e4, e6, e7, hlt, p0, p3]
  refine effS_app1q (by simp only []) w (x := t.1 * 10 + t.2.2.2.1) (cs := [.int .i64 (t.1 * 10 + t.2.2.2.1)]) (by rw [rep_int]) rfl rfl (by have := st'.ge.sz; omega) (by omega) fun a9 n9 c9 u9 h9 x9 s9 hO9 => ⟨by simp (disch := first | omega | (simp only [e_ssz, e_psz, e_hszs, List.length_cons, List.length_nil]; try omega; done)) only [go_sem], ?_⟩
  rw [hacc2] at x9
  simp (disch := first | omega | (simp only [e_ssz, e_psz, e_hszs, List.length_cons, List.length_nil]; try omega; done)) only [↓reduceIte, go_sem, e7]
  refine ⟨i + 1, ?_, by omega⟩
  rw [hI]
  refine ⟨u9, _, ?_, ?_, ?_, ?_, hlt, st'.trans s9 (fun b hb hq => by have := w.ge hq; omega), x9⟩ <;> simp [upd, e4, e5]
def C_refused (vs : List Value) (h : H) (K : Value → H → Prop) : Prop := ∃ (u : U) (s : List UInt8) (c : Int) (p : Nat), vs = [str s, .int .i64 c] ∧ s.length ≤ 9223372036854775807 ∧ LxG u h ∧ scanF s = ([], c, p) ∧ ∀ u' h', Step S0 u h u' h' → K (.bool true) h'
def G_refused : Ctr := fun f vs h K _ => f = 19 ∧ C_kinds vs h K
theorem G_refused_ok : GOk Tryd.prog G_refused := by
  rintro f vs h K KP ⟨rfl, hC⟩; exact lwKinds_ok hC
theorem lwRefused_ok {vs : List Value} {h : H} {K : Value → H → Prop} {KP : List PanicEntry → H → Prop} (hC : C_refused vs h K) : HCX Tryd.prog 20 vs h K KP := by
  obtain ⟨u, s, c, p, rfl, hl, hG, hF, hK⟩ := hC
  refine lwRefused_H G_refused G_refused_ok _ _ ?_
  simp (disch := first | omega | (simp only [e_ssz, e_psz, e_hszs, List.length_cons, List.length_nil]; try omega; done)) only [↓reduceIte, go_sem, lwRefused_S, lwRefused_E]
  refine effS_call ⟨rfl, u, s, rfl, hl, hG, fun u2 h2 v s2 o2 => ⟨by simp (disch := first | omega | (simp only [e_ssz, e_psz, e_hszs, List.length_cons, List.length_nil]; try omega; done)) only [go_sem], ?_⟩⟩
  rw [hF] at o2 ⊢
  obtain ⟨va, vc, rfl, q1, q2⟩ := o2.sl
  simp (disch := first | omega | (simp only [e_ssz, e_psz, e_hszs, List.length_cons, List.length_nil]; try omega; done)) only [↓reduceIte, go_sem, kindsL]
  exact hK _ _ s2
def G_LexNames : Ctr := fun f vs h K _ => (f = 19 ∧ C_kinds vs h K) ∨ (f = 20 ∧ C_refused vs h K)
theorem G_LexNames_ok : GOk Tryd.prog G_LexNames := by
  rintro f vs h K KP (⟨rfl, hC⟩ | ⟨rfl, hC⟩)
  · exact lwKinds_ok hC
  · exact lwRefused_ok hC
theorem LexNames_ok {u : U} {h : H} {K : Value → H → Prop} {KP : List PanicEntry → H → Prop} (hG : LxG u h) (hK : ∀ u' h', Step S0 u h u' h' → K (.bool true) h') : HCX Tryd.prog 4 [] h K KP := by
  refine LexNames_H G_LexNames G_LexNames_ok ?_
  have ht : namesT = [97, 32, 88, 32, 49, 32, 34, 116, 34, 32, 40, 32, 41, 32, 44, 32, 46, 32, 58, 45, 32, 110, 111, 116, 32, 61, 32, 33, 61, 32, 60, 32, 60, 61, 32, 62, 32, 62, 61] := rfl
  have hn1 := names_scan
  have hn2 := names_code
  simp (disch := first | omega | (simp only [e_ssz, e_psz, e_hszs, List.length_cons, List.length_nil]; try omega; done)) only [go_sem, LexNames_S, LexNames_E]
  rw [← ht]
  refine effS_call (.inl ⟨rfl, u, namesT, rfl, by decide, hG, fun u2 h2 v s2 o2 => ⟨by simp (disch := first | omega | (simp only [e_ssz, e_psz, e_hszs, List.length_cons, List.length_nil]; try omega; done)) only [go_sem], ?_⟩⟩)
  rw [hn1] at o2
  rw [hn2]
  obtain ⟨va, vc, rfl, q1, q2⟩ := o2.sl
  have hwl : wantL.length = 17 := rfl
  have hcs : (wantL.map fun n => Value.int .i64 n).toArray = #[.int .i64 10, .int .i64 20, .int .i64 30, .int .i64 40, .int .i64 50, .int .i64 60, .int .i64 70, .int .i64 80, .int .i64 90, .int .i64 100, .int .i64 111, .int .i64 112, .int .i64 113, .int .i64 114, .int .i64 115, .int .i64 116, .int .i64 0] := rfl
  have hm := mlen'
  have W3 := (Own.made (k := 0) u2 h2 (Nat.zero_le _) 3 wantL (wantL.map fun n => Value.int .i64 n) (by rw [List.length_map, sz_int, Nat.mul_one]) (by omega) (fun i x hx => by
    rw [rep_int, sz_int, Nat.mul_one, List.take_one, List.head?_drop, List.getElem?_map, hx]; rfl)).isSl
  have s3 := Step.push S0 u2 h2 (wantL.map fun n => Value.int .i64 n).toArray 3 (wantL.length * Rep.sz Int)
  have i3 := o2.isSl.mono s3.ge
  have st3 := s2.trans0 s3
  rw [hcs] at W3 s3 i3 st3
  rw [hwl] at W3 i3 ⊢
  simp only [hwl] at s3 st3 i3 W3
  simp (disch := first | omega | (simp only [e_ssz, e_psz, e_hszs, List.length_cons, List.length_nil]; try omega; done)) only [↓reduceIte, go_sem]
  obtain ⟨h3, hh3⟩ : ∃ h3, h3 = h2.push (.cells #[.int .i64 10, .int .i64 20, .int .i64 30, .int .i64 40, .int .i64 50, .int .i64 60, .int .i64 70, .int .i64 80, .int .i64 90, .int .i64 100, .int .i64 111, .int .i64 112, .int .i64 113, .int .i64 114, .int .i64 115, .int .i64 116, .int .i64 0] 3) := ⟨_, rfl⟩
  obtain ⟨u3, hu3⟩ : ∃ u3, u3 = ub u2 h2.size (17 * Rep.sz Int) := ⟨_, rfl⟩
  rw [← hh3, ← hu3] at W3 i3 st3
  rw [← hh3]
  clear hcs
  obtain ⟨I, hI⟩ : ∃ I : Nat → Env → H → Prop, I = fun i σ h' => σ 1 = .slice va 17 vc ∧ σ 3 = .slice (some ⟨h2.size, 0, none⟩) 17 17 ∧ σ 4 = .int .i64 i ∧ i ≤ 17 ∧ h' = h3 := ⟨_, rfl⟩
  refine wpS_loop I (fun j => 17 - j) 0 (by rw [hI]; exact ⟨by simp [upd], by simp [upd], by simp [upd], by omega, rfl⟩) ?_
  intro i σ h' hy
  rw [hI] at hy
  obtain ⟨e1, e3, e4, hi, rfl⟩ := hy
  by_cases hlt : i < 17
  · obtain ⟨n, hn⟩ : ∃ n, wantL[i]? = some n := ⟨wantL[i]'(by omega), by simp [show i < wantL.length by omega]⟩
    obtain ⟨pb, po, rfl, hpb, hpu, hpz, hpr⟩ := i3.row i n hn
    obtain ⟨qb, qo, hq, hqb, hqu, hqz, hqr⟩ := W3.row i n hn
    cases hq
    rw [rep_int] at hpr hqr
    simp only [sz_int, hvs_1, Nat.zero_add, List.cons.injEq, and_true] at hpr hpu hpz hqr hqu hqz
    simp (disch := first | omega | (simp only [e_ssz, e_psz, e_hszs, List.length_cons, List.length_nil]; try omega; done)) only [↓reduceIte, go_sem, LexNames_L1, e1, e3, e4, hpr, hqr, eq_true (show (i : Int) < 17 by omega)]
    refine ⟨i + 1, ?_, by omega⟩
    rw [hI]
    exact ⟨by simp [upd, e1], by simp [upd, e3], by simp [upd], hlt, rfl⟩
  obtain rfl : i = 17 := by omega
  simp (disch := first | omega | (simp only [e_ssz, e_psz, e_hszs, List.length_cons, List.length_nil]; try omega; done)) only [↓reduceIte, go_sem, LexNames_L1, e1, e4]
  clear hI
  obtain ⟨J, hJ⟩ : ∃ J : Nat → Env → H → Prop, J = fun i σ h2 => σ 5 = str (List.replicate (2 ^ i) 97) ∧ σ 6 = .int .i64 i ∧ i ≤ 16 ∧ h2 = h' := ⟨_, rfl⟩
  refine wpS_loop J (fun j => 16 - j) 0 (by rw [hJ]; exact ⟨by simp [upd], by simp [upd], by omega, rfl⟩) ?_
  intro i σ h4 hy
  rw [hJ] at hy
  obtain ⟨e5, e6, hi, rfl⟩ := hy
  by_cases hlt : i < 16
  · have hp : 2 ^ i ≤ 65536 := Nat.le_trans (Nat.pow_le_pow_right (by decide) (show i ≤ 16 by omega)) (by decide)
    obtain ⟨lg, hlg⟩ : ∃ lg : List UInt8, lg = List.replicate (2 ^ i) 97 := ⟨_, rfl⟩
    have hll : lg.length = 2 ^ i := by rw [hlg, List.length_replicate]
    have hlg2 : lg ++ lg = List.replicate (2 ^ (i + 1)) 97 := by rw [hlg, List.replicate_append_replicate]; congr 1; omega
    rw [← hlg] at e5
    simp (disch := first | omega | (simp only [e_ssz, e_psz, e_hszs, List.length_cons, List.length_nil]; try omega; done)) only [↓reduceIte, go_sem, LexNames_L2, e5, e6, eq_true (show (i : Int) < 16 by omega)]
    refine ⟨by omega, i + 1, ?_, by omega⟩
    rw [hJ]
    exact ⟨by simp [upd, hlg2], by simp [upd], hlt, rfl⟩
  obtain rfl : i = 16 := by omega
  clear hJ
  obtain ⟨lg, hlg⟩ : ∃ lg : List UInt8, lg = List.replicate (2 ^ 16) 97 := ⟨_, rfl⟩
  rw [← hlg] at e5
  have hll : lg.length = 65536 := by rw [hlg, List.length_replicate]
  have ht65 : scanF (lg.take 65) = ([], 14, 0) := by rw [hlg, List.take_replicate, Nat.min_eq_left (by decide)]; exact n65
  have ht256 : scanF ([34] ++ lg.take 256 ++ [34]) = ([], 15, 0) := by rw [hlg, List.take_replicate, Nat.min_eq_left (by decide)]; exact n258
  have ht64 : scanF (lg.take 64) = ([(1, List.replicate 64 97, 0, 0, 0, 64), endT 64], 0, 0) := by rw [hlg, List.take_replicate, Nat.min_eq_left (by decide)]; exact n64
  have hlo : scanF lg = ([], 14, 0) := by rw [hlg]; exact nlong (by decide) (by decide)
  have hlb : scanF (lg ++ [97]) = ([], 1, 0) := nbig (by rw [List.length_append, hll]; decide)
  clear hlg
  have l65 : (lg.take 65).length = 65 := by rw [List.length_take]; omega
  have l64 : (lg.take 64).length = 64 := by rw [List.length_take]; omega
  have l256 : (lg.take 256).length = 256 := by rw [List.length_take]; omega
  simp (disch := first | omega | (simp only [e_ssz, e_psz, e_hszs, List.length_cons, List.length_nil]; try omega; done)) only [↓reduceIte, go_sem, LexNames_L2, e6]
  refine effS_call (.inr ⟨rfl, u3, [35], 10, 0, rfl, by decide, hG.mono (st3).ge, n10, fun u41 h41 s41 => ⟨by simp (disch := first | omega | (simp only [e_ssz, e_psz, e_hszs, List.length_cons, List.length_nil]; try omega; done)) only [go_sem], ?_⟩⟩)
  have st41 := (st3).trans0 s41
  simp (disch := first | omega | (simp only [e_ssz, e_psz, e_hszs, List.length_cons, List.length_nil]; try omega; done)) only [↓reduceIte, go_sem]
  refine effS_call (.inr ⟨rfl, u41, [34], 11, 0, rfl, by decide, hG.mono (st41).ge, n11, fun u42 h42 s42 => ⟨by simp (disch := first | omega | (simp only [e_ssz, e_psz, e_hszs, List.length_cons, List.length_nil]; try omega; done)) only [go_sem], ?_⟩⟩)
  have st42 := (st41).trans0 s42
  simp (disch := first | omega | (simp only [e_ssz, e_psz, e_hszs, List.length_cons, List.length_nil]; try omega; done)) only [↓reduceIte, go_sem]
  refine effS_call (.inr ⟨rfl, u42, [34, 92, 113], 12, 1, rfl, by decide, hG.mono (st42).ge, n12, fun u43 h43 s43 => ⟨by simp (disch := first | omega | (simp only [e_ssz, e_psz, e_hszs, List.length_cons, List.length_nil]; try omega; done)) only [go_sem], ?_⟩⟩)
  have st43 := (st42).trans0 s43
  simp (disch := first | omega | (simp only [e_ssz, e_psz, e_hszs, List.length_cons, List.length_nil]; try omega; done)) only [↓reduceIte, go_sem]
  refine effS_call (.inr ⟨rfl, u43, [49, 97], 13, 0, rfl, by decide, hG.mono (st43).ge, n13, fun u44 h44 s44 => ⟨by simp (disch := first | omega | (simp only [e_ssz, e_psz, e_hszs, List.length_cons, List.length_nil]; try omega; done)) only [go_sem], ?_⟩⟩)
  have st44 := (st43).trans0 s44
  simp (disch := first | omega | (simp only [e_ssz, e_psz, e_hszs, List.length_cons, List.length_nil]; try omega; done)) only [↓reduceIte, go_sem]
  refine effS_call (.inr ⟨rfl, u44, [47, 42], 16, 0, rfl, by decide, hG.mono (st44).ge, n16, fun u45 h45 s45 => ⟨by simp (disch := first | omega | (simp only [e_ssz, e_psz, e_hszs, List.length_cons, List.length_nil]; try omega; done)) only [go_sem], ?_⟩⟩)
  have st45 := (st44).trans0 s45
  simp (disch := first | omega | (simp only [e_ssz, e_psz, e_hszs, List.length_cons, List.length_nil]; try omega; done)) only [↓reduceIte, go_sem, e5]
  refine ⟨by omega, ?_⟩
  refine effS_call (.inr ⟨rfl, u45, lg.take 65, 14, 0, rfl, by omega, hG.mono (st45).ge, ht65, fun u46 h46 s46 => ⟨by simp (disch := first | omega | (simp only [e_ssz, e_psz, e_hszs, List.length_cons, List.length_nil]; try omega; done)) only [go_sem], ?_⟩⟩)
  have st46 := (st45).trans0 s46
  simp (disch := first | omega | (simp only [e_ssz, e_psz, e_hszs, List.length_cons, List.length_nil]; try omega; done)) only [↓reduceIte, go_sem, e5]
  refine ⟨by omega, by omega, by omega, ?_⟩
  refine effS_call (.inr ⟨rfl, u46, [34] ++ lg.take 256 ++ [34], 15, 0, rfl, by simp only [List.length_append, List.length_singleton]; omega, hG.mono (st46).ge, ht256, fun u47 h47 s47 => ⟨by simp (disch := first | omega | (simp only [e_ssz, e_psz, e_hszs, List.length_cons, List.length_nil]; try omega; done)) only [go_sem], ?_⟩⟩)
  have st47 := (st46).trans0 s47
  simp (disch := first | omega | (simp only [e_ssz, e_psz, e_hszs, List.length_cons, List.length_nil]; try omega; done)) only [↓reduceIte, go_sem, e5]
  refine ⟨by omega, ?_⟩
  refine effS_call (.inr ⟨rfl, u47, lg ++ [97], 1, 0, rfl, by simp only [List.length_append, List.length_singleton]; omega, hG.mono (st47).ge, hlb, fun u48 h48 s48 => ⟨by simp (disch := first | omega | (simp only [e_ssz, e_psz, e_hszs, List.length_cons, List.length_nil]; try omega; done)) only [go_sem], ?_⟩⟩)
  have st48 := (st47).trans0 s48
  simp (disch := first | omega | (simp only [e_ssz, e_psz, e_hszs, List.length_cons, List.length_nil]; try omega; done)) only [↓reduceIte, go_sem, e5]
  refine effS_call (.inr ⟨rfl, u48, lg, 14, 0, rfl, by omega, hG.mono (st48).ge, hlo, fun u49 h49 s49 => ⟨by simp (disch := first | omega | (simp only [e_ssz, e_psz, e_hszs, List.length_cons, List.length_nil]; try omega; done)) only [go_sem], ?_⟩⟩)
  have st49 := (st48).trans0 s49
  simp (disch := first | omega | (simp only [e_ssz, e_psz, e_hszs, List.length_cons, List.length_nil]; try omega; done)) only [↓reduceIte, go_sem, e5]
  refine ⟨by omega, ?_⟩
  refine effS_call (.inl ⟨rfl, u49, lg.take 64, rfl, by omega, hG.mono (st49).ge, fun u5 h5 v5 s5 o5 => ⟨by simp (disch := first | omega | (simp only [e_ssz, e_psz, e_hszs, List.length_cons, List.length_nil]; try omega; done)) only [go_sem], ?_⟩⟩)
  rw [ht64] at o5 ⊢
  have st5 := (st49).trans0 s5
  have hk : kindsL [(1, List.replicate 64 97, 0, 0, 0, 64), endT 64] = [10, 0] := rfl
  simp only [hk] at o5 ⊢
  obtain ⟨xa, xc, rfl, k1, k2⟩ := o5.sl
  obtain ⟨pb, po, rfl, hpb, hpu, hpz, hpr⟩ := o5.isSl.row 0 10 rfl
  rw [rep_int] at hpr
  simp only [sz_int, hvs_1, Nat.zero_mul, Nat.add_zero, List.cons.injEq, and_true] at hpr hpu hpz
  simp only [List.length_cons, List.length_nil] at k1 ⊢
  simp (disch := first | omega | (simp only [e_ssz, e_psz, e_hszs, List.length_cons, List.length_nil]; try omega; done)) only [↓reduceIte, go_sem, hpr]
  exact hK _ _ st5
theorem LexNames_hc {h : H} (hG : LxG (hsz h) h) : HCX Tryd.prog 4 [] h (fun v h' => v = .bool true ∧ Ext0 h h') fun _ _ => False :=
  LexNames_ok hG fun u' h' st => ⟨rfl, st.ext⟩
end Go.Proofs.YtbkpmdgeeolifaaDoor
