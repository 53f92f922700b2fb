/- The law ParseJoins. -/
import Derived.Test.YtmnfhmbmifompaaDoorPlX
import Derived.Test.YtmnfhmbmifompaaDoorPlG
import Derived.Test.YtmnfhmbmifompaaDoorPlV4
namespace Edict
theorem flt_off (f : Int) (src : List UInt8) : 0 ≤ (fltF f src).2 ∧ (fltF f src).2 ≤ 65536 := by
  unfold fltF
  split
  · exact ⟨by decide, by decide⟩
  · rename_i hl
    have hl' : src.length ≤ 65536 := by omega
    rcases chk_where (f := f) (bad := badF src) (scanF src).1 f 0 0 0 with h | ⟨p, x, q, h1, h2, -⟩
    · rw [h]
      unfold badF
      rw [scanF_is hl']
      rcases scan_shape (s := src) (k := 0) (l := (scanK src 0).1) (c := (scanK src 0).2.1) (p := (scanK src 0).2.2) (Nat.zero_le _) rfl with ⟨-, -, k, -⟩ | ⟨-, k, -⟩
      · exact ⟨by simp only; omega, by simp only; omega⟩
      · exact ⟨by simp only; omega, by simp only; omega⟩
    · rw [h2]
      rw [scanF_is hl'] at h1
      obtain ⟨-, -, a, b, -⟩ := around h1
      exact ⟨a, by omega⟩
theorem resProg_flt (src : List UInt8) : (resProg src).2 = fltF 0 src := by
  rcases resProg_cases src with ⟨e, q1, -, q3⟩ | ⟨a, q1, q3⟩
  · rw [q1, prog_flt.1 e q3]
  · rw [q1, prog_flt.2 a q3]
theorem resFacs_flt (src : List UInt8) : (resFacs src).2 = fltF 15 src := by
  rcases resFacs_cases src with ⟨e, q1, -, q3⟩ | ⟨a, q1, q3⟩
  · rw [q1, facts_flt.1 e q3]
  · rw [q1, facts_flt.2 a q3]
end Edict
namespace Go.Proofs.YtmnfhmbmifompaaDoor
open Go Go.Ev Edict
def G_Joins : Ctr := fun f vs h K _ => (f = 28 ∧ C_pProgU vs h K) ∨ (f = 22 ∧ C_pFacsU vs h K) ∨ (f = 39 ∧ C_shAtom vs h K) ∨ (f = 38 ∧ C_shBody vs h K) ∨ (f = 30 ∧ C_sClauses vs h K) ∨ (f = 24 ∧ C_sAtoms vs h K) ∨ (f = 29 ∧ C_taken vs h K)
theorem G_Joins_ok : GOk Tryd.prog G_Joins := by
  rintro f vs h K KP (⟨rfl, hC⟩ | ⟨rfl, hC⟩ | ⟨rfl, hC⟩ | ⟨rfl, hC⟩ | ⟨rfl, hC⟩ | ⟨rfl, hC⟩ | ⟨rfl, hC⟩)
  · exact psProgU_ok hC
  · exact psFacsU_ok hC
  · exact plShiftAtom_ok hC
  · exact plShiftBody_ok hC
  · exact plSameClauses_ok hC
  · exact plSameAtoms_ok hC
  · exact plTaken_ok hC
def jT6 : S := sS (sS (sS (sS (sS (sS ParseJoins_S)))))
theorem joins_cut : ParseJoins_S = .seq (sF ParseJoins_S) (.seq (sF (sS ParseJoins_S)) (.seq (sF (sS (sS ParseJoins_S))) (.seq (sF (sS (sS (sS ParseJoins_S)))) (.seq (sF (sS (sS (sS (sS ParseJoins_S))))) (.seq (sF (sS (sS (sS (sS (sS ParseJoins_S)))))) jT6))))) := rfl
def jT7 : S := sS jT6
def jT8 : S := sS jT7
def jT9 : S := sS jT8
theorem jT6_cut : jT6 = .seq (sF jT6) jT7 := rfl
theorem jT7_cut : jT7 = .seq (sF jT7) jT8 := rfl
theorem jT8_cut : jT8 = .seq (sF jT8) jT9 := rfl
theorem joins_tail {σ : Env} {u : U} {h : H} {a b : List UInt8} {p q : Nat} {f1 f2 f3 g1 g2 g3 : Int} {K : Value → H → Prop} {KP : List PanicEntry → H → Prop} (hl : a.length + 1 + b.length ≤ 65536) (e0 : σ 0 = str a) (e1 : σ 1 = str b) (e5 : σ 5 = .int .i64 ((a.length + 1 : Nat) : Int))
    (e7 : σ 7 = .pointer (some ⟨p, 0, none⟩)) (e9 : σ 9 = .pointer (some ⟨q, 0, none⟩)) (hpq : p ≠ q) (Bp : Blk u h p [.int .i64 f1, .int .i64 f2, .int .i64 f3]) (Bq : Blk u h q [.int .i64 g1, .int .i64 g2, .int .i64 g3]) (hG : LxG u h)
    (hK : ∀ u' h', Step (fun c => c = p ∨ c = q) u h u' h' → K (.bool true) h') : wpS G_Joins jT6 (retQ ParseJoins_E (callK K KP)) σ h := by
  have hm := mlen'
  rw [jT6_cut]
  simp (disch := first | omega | (simp only [e_ssz, e_psz, e_hszs, List.length_cons, List.length_nil]; try omega; done)) only [go_sem, jT6, sF, sS, ParseJoins_S, ParseJoins_E, e0]
  refine effS_call (.inr (.inl ⟨rfl, u, a, rfl, by omega, hG, fun u1 h1 w1 s1 o1 => ⟨by simp (disch := first | omega | (simp only [e_ssz, e_psz, e_hszs, List.length_cons, List.length_nil]; try omega; done)) only [go_sem], ?_⟩⟩))
  have hj := @join_facts a b
  have hfc : (resFacs a).2 = (0, 0) ∨ (resFacs a).2.1 ≠ 0 := by
    rcases resFacs_cases a with ⟨e, q, hne, -⟩ | ⟨a, q, -⟩
    · exact .inr (by rw [q]; exact hne)
    · exact .inl (by rw [q])
  have hgc : (resFacs b).2 = (0, 0) ∨ (resFacs b).2.1 ≠ 0 := by
    rcases resFacs_cases b with ⟨e, q, hne, -⟩ | ⟨a, q, -⟩
    · exact .inr (by rw [q]; exact hne)
    · exact .inl (by rw [q])
  have hcl := resFacs_len a
  have hdl := resFacs_len b
  have hgo := flt_off 15 b
  rw [← resFacs_flt] at hgo
  have hoff := facs_off b
  obtain ⟨P, hP⟩ : ∃ P, P = resFacs a := ⟨_, rfl⟩
  obtain ⟨Q, hQ⟩ : ∃ Q, Q = resFacs b := ⟨_, rfl⟩
  rw [← hP] at o1 hj hfc hcl ⊢
  rw [← hQ] at hj hgc hoff hdl hgo
  clear hP
  obtain ⟨xs, f⟩ := P
  simp only at o1 hj hfc hcl ⊢
  obtain ⟨a1, c1, rfl, m1, m2⟩ := o1.sl
  simp only [fltV]
  have D1 := Bp.step0 s1
  have E1 := Bq.step0 s1
  have D11 := D1.1
  have W2 := D1.sets (l := [.int .i64 f.1, .int .i64 0, .int .i64 f.2]) rfl
  have s2 := Step.sets (S := fun c => c = p) u1 h1 (b := p) (o := 0) [.int .i64 f.1, .int .i64 0, .int .i64 f.2] rfl (by rw [D1.2.2.2.1]; exact Nat.zero_le _) (by rw [D1.2.1]; exact Nat.le_refl _)
  obtain ⟨h2, hh2⟩ : ∃ h2, h2 = hsets h1 p 0 [.int .i64 f.1, .int .i64 0, .int .i64 f.2] := ⟨_, rfl⟩
  rw [← hh2] at s2 W2
  have E2 := E1.step s2 (fun q' => hpq q'.symm)
  have W21 := W2.1
  have E21 := E2.1
  have o2 := o1.step s2 (fun c qc qp => by have := o1.ge qc; have := Bp.1; omega)
  have st2 : Step (fun c => c = p ∨ c = q) u h u1 h2 := (s1.mono (fun c _ q' => q'.elim)).trans s2 (fun c _ q' => .inl q')
  simp (disch := first | omega | (simp only [e_ssz, e_psz, e_hszs, List.length_cons, List.length_nil]; try omega; done)) only [↓reduceIte, go_sem, D1.2.1, D1.2.2.1, ← hh2, e7]
  rw [jT7_cut]
  simp (disch := first | omega | (simp only [e_ssz, e_psz, e_hszs, List.length_cons, List.length_nil]; try omega; done)) only [↓reduceIte, go_sem, jT7, jT6, sF, sS, ParseJoins_S, e1]
  refine effS_call (.inr (.inl ⟨rfl, u1, b, rfl, by omega, hG.mono st2.ge, fun u3 h3 w3 s3 o3 => ⟨by simp (disch := first | omega | (simp only [e_ssz, e_psz, e_hszs, List.length_cons, List.length_nil]; try omega; done)) only [go_sem], ?_⟩⟩))
  rw [← hQ] at o3 ⊢
  clear hQ
  obtain ⟨bs, g⟩ := Q
  simp only at o3 hj hgc hoff hdl hgo ⊢
  obtain ⟨a3, c3, rfl, n1, n2⟩ := o3.sl
  simp only [fltV]
  have W3 := W2.step0 s3
  have E3 := E2.step0 s3
  have E31 := E3.1
  have W4 := E3.sets (l := [.int .i64 g.1, .int .i64 0, .int .i64 g.2]) rfl
  have s4 := Step.sets (S := fun c => c = q) u3 h3 (b := q) (o := 0) [.int .i64 g.1, .int .i64 0, .int .i64 g.2] rfl (by rw [E3.2.2.2.1]; exact Nat.zero_le _) (by rw [E3.2.1]; exact Nat.le_refl _)
  obtain ⟨h4, hh4⟩ : ∃ h4, h4 = hsets h3 q 0 [.int .i64 g.1, .int .i64 0, .int .i64 g.2] := ⟨_, rfl⟩
  rw [← hh4] at s4 W4
  have V4 := W3.step s4 (fun q' => hpq q')
  have W41 := W4.1
  have V41 := V4.1
  have zq : q < h2.size := E2.1
  have o4 := (o2.step0 s3).step s4 (fun c qc qp => by have := o2.ge qc; have := Bq.1; omega)
  have i4 := (o3.step s4 (fun c qc qp => by have := o3.ge qc; omega)).isSl
  have st4 : Step (fun c => c = p ∨ c = q) u h u3 h4 := (st2.trans0 s3).trans s4 (fun c _ q' => .inr q')
  simp (disch := first | omega | (simp only [e_ssz, e_psz, e_hszs, List.length_cons, List.length_nil]; try omega; done)) only [↓reduceIte, go_sem, E3.2.1, E3.2.2.1, ← hh4, e9]
  rw [jT8_cut]
  by_cases hcond : f = (0, 0) ∧ xs.length + b.length ≤ 4096
  case neg =>
    have fin : ∀ (σ' : Env), wpS G_Joins jT9 (retQ ParseJoins_E (callK K KP)) σ' h4 := by
      intro σ'
      simp (disch := first | omega | (simp only [e_ssz, e_psz, e_hszs, List.length_cons, List.length_nil]; try omega; done)) only [go_sem, jT9, jT8, jT7, jT6, sS, ParseJoins_S, ParseJoins_E]
      refine effS_call (.inr (.inr (.inr (.inr (.inr (.inr ⟨rfl, u3, rfl, hG.mono st4.ge, fun u8 h8 s8 => ⟨by simp (disch := first | omega | (simp only [e_ssz, e_psz, e_hszs, List.length_cons, List.length_nil]; try omega; done)) only [go_sem], ?_⟩⟩))))))
      simp (disch := first | omega | (simp only [e_ssz, e_psz, e_hszs, List.length_cons, List.length_nil]; try omega; done)) only [↓reduceIte, go_sem]
      exact hK _ _ (st4.trans0 s8)
    by_cases hf : f.1 = 0
    · have hf0 : f = (0, 0) := hfc.resolve_right (fun q' => q' hf)
      have hf2 : f.2 = 0 := by rw [hf0]
      simp (disch := first | omega | (simp only [e_ssz, e_psz, e_hszs, List.length_cons, List.length_nil]; try omega; done)) only [↓reduceIte, go_sem, jT8, jT7, jT6, sF, sS, ParseJoins_S, e1, e7, V4.at, V4.2.1, eq_true hf, eq_true hf2, eq_false (show ¬ ((xs.length : Nat) : Int) + (b.length : Nat) ≤ 4096 by intro q'; exact hcond ⟨hf0, by omega⟩)]
      exact fin _
    · simp (disch := first | omega | (simp only [e_ssz, e_psz, e_hszs, List.length_cons, List.length_nil]; try omega; done)) only [↓reduceIte, go_sem, jT8, jT7, jT6, sF, sS, ParseJoins_S, e1, e7, V4.at, V4.2.1, eq_false hf]
      exact fin _
  obtain ⟨hf0, hlen⟩ := hcond
  have hf1 : f.1 = 0 := by rw [hf0]
  have hf2 : f.2 = 0 := by rw [hf0]
  obtain ⟨j1, j2⟩ := hj hf0 hl hlen
  simp (disch := first | omega | (simp only [e_ssz, e_psz, e_hszs, List.length_cons, List.length_nil]; try omega; done)) only [↓reduceIte, go_sem, jT8, jT7, jT6, sF, sS, ParseJoins_S, e0, e1, e7, V4.at, V4.2.1, eq_true hf1, eq_true hf2, eq_true (show ((xs.length : Nat) : Int) + (b.length : Nat) ≤ 4096 by omega)]
  have hJ : a ++ [10] ++ b = a ++ 10 :: b := by simp
  rw [hJ]
  refine ⟨by omega, by omega, effS_call (.inr (.inl ⟨rfl, u3, a ++ 10 :: b, rfl, by simp; omega, hG.mono st4.ge, fun u5 h5 w5 s5 o5 => ⟨by simp (disch := first | omega | (simp only [e_ssz, e_psz, e_hszs, List.length_cons, List.length_nil]; try omega; done)) only [go_sem], ?_⟩⟩))⟩
  obtain ⟨R, hR⟩ : ∃ R, R = resFacs (a ++ 10 :: b) := ⟨_, rfl⟩
  rw [← hR] at o5 j1 j2 ⊢
  clear hR
  obtain ⟨rs, e⟩ := R
  simp only at o5 j1 j2 ⊢
  obtain ⟨a5, c5, rfl, q1, q2⟩ := o5.sl
  simp only [fltV]
  have s6 := Step.push0 S0 u5 h5 #[.int .i64 e.1, .int .i64 0, .int .i64 e.2] 27
  have B6 := Blk.new (u := u5) (h := h5) [.int .i64 e.1, .int .i64 0, .int .i64 e.2] 27
  obtain ⟨h6, hh6⟩ : ∃ h6, h6 = h5.push (.cells #[.int .i64 e.1, .int .i64 0, .int .i64 e.2] 27) := ⟨_, rfl⟩
  obtain ⟨u6, hu6⟩ : ∃ u6, u6 = ub u5 h5.size 0 := ⟨_, rfl⟩
  have B6' : Blk u6 h6 h5.size [.int .i64 e.1, .int .i64 0, .int .i64 e.2] := by rw [hu6, hh6]; exact B6
  rw [← hh6, ← hu6] at s6
  clear B6
  have W6 := (W4.step0 s5).step0 s6
  have o6 := (o4.step0 s5).step0 s6
  have i6 := (i4.mono s5.ge).mono s6.ge
  have j6 := o5.isSl.mono s6.ge
  have st6 := (st4.trans0 s5).trans0 s6
  have W61 := W6.1
  have B61 := B6'.1
  obtain ⟨r, hr⟩ : ∃ r, r = h5.size := ⟨_, rfl⟩
  have hrq : r ≠ q := by have := s5.ge.sz; omega
  rw [← hr] at B6' B61
  rcases hgc with hg0 | hg
  case inr =>
    obtain ⟨rfl, he⟩ := Prod.mk.inj (j1 hg)
    have he1 : e.1 = g.1 := by rw [he]; unfold shE; rw [if_neg hg]
    have he2 : e.2 = g.2 + ((a.length + 1 : Nat) : Int) := by rw [he]; unfold shE; rw [if_neg hg]
    have wq : IntKind.i64.wrap (g.2 + ((a.length + 1 : Nat) : Int)) = g.2 + ((a.length + 1 : Nat) : Int) := wr64 (by omega) (by omega)
    have W7 := W6.set (i := 2) (v := .int .i64 e.2) (by simp)
    have s7 := Step.set (S := fun c => c = q) u6 h6 (b := q) (o := 2) (.int .i64 e.2) rfl (by rw [W6.2.2.2.1]; exact Nat.zero_le _)
    obtain ⟨h7, hh7⟩ : ∃ h7, h7 = hset h6 q 2 (.int .i64 e.2) := ⟨_, rfl⟩
    rw [← hh7] at W7 s7
    simp only [List.set_cons_succ, List.set_cons_zero] at W7
    have B7 := B6'.step s7 hrq
    have W71 := W7.1
    have B71 := B7.1
    have st7 : Step (fun c => c = p ∨ c = q) u h u6 h7 := st6.trans s7 (fun c _ q' => .inr q')
    simp (disch := first | omega | (simp only [e_ssz, e_psz, e_hszs, List.length_cons, List.length_nil]; try omega; done)) only [↓reduceIte, go_sem, ← hh6, ← hr, e5, e9, W6.at, W6.2.1, W6.2.2.1, eq_false hg, ← he2, ← hh7, W7.at, W7.2.1, B7.at, B7.2.1, eq_true he1]
    refine effS_call (.inr (.inr (.inr (.inr (.inr (.inr ⟨rfl, u6, rfl, hG.mono st7.ge, fun u9 h9 s9 => ⟨by simp (disch := first | omega | (simp only [e_ssz, e_psz, e_hszs, List.length_cons, List.length_nil]; try omega; done)) only [go_sem], ?_⟩⟩))))))
    simp (disch := first | omega | (simp only [e_ssz, e_psz, e_hszs, List.length_cons, List.length_nil]; try omega; done)) only [↓reduceIte, go_sem]
    exact hK _ _ (st7.trans0 s9)
  have hg1 : g.1 = 0 := by rw [hg0]
  have hg2 : g.2 = 0 := by rw [hg0]
  obtain ⟨hrs, he⟩ := Prod.mk.inj (j2 hg0)
  have he1 : e.1 = 0 := by rw [he]
  have he2 : e.2 = 0 := by rw [he]
  simp (disch := first | omega | (simp only [e_ssz, e_psz, e_hszs, List.length_cons, List.length_nil]; try omega; done)) only [↓reduceIte, go_sem, ← hh6, ← hr, e9, W6.at, W6.2.1, eq_true hg1, eq_true hg2]
  obtain ⟨y, hy⟩ : ∃ y, y = a.length + 1 := ⟨_, rfl⟩
  have hy6 : y ≤ 1000000 := by omega
  rw [← hy] at e5 hrs
  have hnr : ∀ c, OwnB (.slice a1 xs.length c1) c → c ≠ r := fun c qc => by have := o2.lt qc; have := s3.ge.sz; have := s4.ge.sz; have := s5.ge.sz; omega
  obtain ⟨I, hI⟩ : ∃ I : Nat → Env → H → Prop, I = fun k σ' h' => ∃ (u' : U) (w : Value), σ' 5 = .int .i64 (y : Nat) ∧ σ' 17 = .slice a5 rs.length c5 ∧ σ' 18 = .pointer (some ⟨r, 0, none⟩) ∧ σ' 19 = w ∧ σ' 158 = .slice a3 bs.length c3 ∧ σ' 159 = .int .i64 (bs.length : Nat) ∧ σ' 160 = .int .i64 k ∧ k ≤ bs.length ∧
      Step (fun c => c = p ∨ c = q) u h u' h' ∧ Blk u' h' r [.int .i64 e.1, .int .i64 0, .int .i64 e.2] ∧ IsSl u' h' (.slice a5 rs.length c5) rs ∧ IsSl u' h' (.slice a3 bs.length c3) bs ∧ Own h.size u' h' w (xs ++ (bs.take k).map (shA y)) ∧ (∀ c, OwnB w c → c ≠ r) := ⟨_, rfl⟩
  refine wpS_loop I (fun j => bs.length - j) 0 (by rw [hI]; exact ⟨u6, .slice a1 xs.length c1, by simp [upd, e5], by simp [upd], by simp [upd], by simp [upd], by simp [upd], by simp [upd], by simp [upd], by omega, st6, B6', j6, i6, by simpa using o6, hnr⟩) ?_
  clear W4 W3 V4 W2 E1 E2 E3 D1 o1 o2 o3 o4 o5 o6 i4 i6 j6 B6' W6 hh2 hh4 hh6 s1 s2 s3 s4 s5 s6 st2 st4 st6 hnr Bp Bq e0 e1 e5 e7 e9
  intro k σ' h' hy'
  rw [hI] at hy'
  obtain ⟨u', w, e5, e17, e18, e19, e158, e159, e160, hk, st, Br, irs, ibs, ow, hwr⟩ := hy'
  obtain ⟨acc, hacc⟩ : ∃ acc, acc = xs ++ (bs.take k).map (shA y) := ⟨_, rfl⟩
  have hal : acc.length = xs.length + k := by rw [hacc, List.length_append, List.length_map, List.length_take]; omega
  rw [← hacc] at ow
  obtain ⟨wa, wc, rfl, z1, z2⟩ := ow.sl
  have Br1 := Br.1
  by_cases hlt : k < bs.length
  case neg =>
    have hfull : acc = rs := by rw [hacc, hrs, List.take_of_length_le (by omega)]
    rw [hfull] at ow e19
    simp (disch := first | omega | (simp only [e_ssz, e_psz, e_hszs, List.length_cons, List.length_nil]; try omega; done)) only [↓reduceIte, go_sem, ParseJoins_L2, e17, e18, e19, e159, e160, eq_false (show ¬ (k : Int) < (bs.length : Nat) by omega), Br.at, Br.2.1, eq_true he1, eq_true he2]
    refine effS_call (.inr (.inr (.inr (.inr (.inr (.inl ⟨rfl, u', _, _, rs, rfl, irs, ow.isSl, fun u8 h8 s8 => ⟨by simp (disch := first | omega | (simp only [e_ssz, e_psz, e_hszs, List.length_cons, List.length_nil]; try omega; done)) only [go_sem], ?_⟩⟩))))))
    have st8 := st.trans0 s8
    simp (disch := first | omega | (simp only [e_ssz, e_psz, e_hszs, List.length_cons, List.length_nil]; try omega; done)) only [↓reduceIte, go_sem]
    refine effS_call (.inr (.inr (.inr (.inr (.inr (.inr ⟨rfl, u8, rfl, hG.mono st8.ge, fun u9 h9 s9 => ⟨by simp (disch := first | omega | (simp only [e_ssz, e_psz, e_hszs, List.length_cons, List.length_nil]; try omega; done)) only [go_sem], ?_⟩⟩))))))
    simp (disch := first | omega | (simp only [e_ssz, e_psz, e_hszs, List.length_cons, List.length_nil]; try omega; done)) only [↓reduceIte, go_sem]
    exact hK _ _ (st8.trans0 s9)
  obtain ⟨x, hx⟩ : ∃ x, bs[k]? = some x := ⟨bs[k], by simp [hlt]⟩
  have hxo := hoff x (List.mem_of_getElem? hx)
  obtain ⟨pb, po, rfl, hpb, hpu, hpz, hpr⟩ := ibs.row k x hx
  rw [rep_atom] at hpr
  obtain ⟨xv, hpr, ixv⟩ := hpr
  obtain ⟨xa, xc, rfl, -, -⟩ := ixv.sl
  simp only [sz_atom, hvs_3, List.cons.injEq, and_true] at hpr hpu hpz
  obtain ⟨p0, p1, p2⟩ := hpr
  obtain ⟨h7, h8, u8, hh7, hh8, B7, B8, s8, hz8⟩ := boxed u' h' [str [], .slice none 0 0, .int .i64 0] [str x.1, .slice xa x.2.1.length xc, .int .i64 x.2.2] 52 rfl
  have B71 := B7.1
  have B81 := B8.1
  have st8 := st.trans0 s8
  simp (disch := first | omega | (simp only [e_ssz, e_psz, e_hszs, List.length_cons, List.length_nil]; try omega; done)) only [↓reduceIte, go_sem, ParseJoins_L2, e5, e158, e159, e160, eq_true (show (k : Int) < (bs.length : Nat) by omega), p0, p1, p2, ← hh7, ← hh8, B7.2.1, B7.2.2.1, B8.at, B8.2.1]
  refine effS_call (.inr (.inr (.inl ⟨rfl, u8, _, x, y, rfl, ixv.mono s8.ge, hxo, hy6, fun u9 h9 w9 s9 o9 => ⟨by simp (disch := first | omega | (simp only [e_ssz, e_psz, e_hszs, List.length_cons, List.length_nil]; try omega; done)) only [go_sem], ?_⟩⟩)))
  obtain ⟨ya, yc, rfl, -, -⟩ := o9.sl
  have ow9 := (ow.step0 s8).step0 s9
  have st9 := st8.trans0 s9
  have hxr : Rep.rep u9 h9 (shA y x) [str x.1, .slice ya (shA y x).2.1.length yc, .int .i64 (shA y x).2.2] := by rw [rep_atom]; exact ⟨_, rfl, o9.isSl⟩
  simp (disch := first | omega | (simp only [e_ssz, e_psz, e_hszs, List.length_cons, List.length_nil]; try omega; done)) only [↓reduceIte, go_sem, e19]
  refine effS_app1q rfl ow9 (x := shA y x) hxr rfl rfl (by have := st9.ge.sz; omega) (by omega) fun a10 n10 c10 u10 h10 o10 s10 hO10 => ⟨by simp (disch := first | omega | (simp only [e_ssz, e_psz, e_hszs, List.length_cons, List.length_nil]; try omega; done)) only [go_sem], ?_⟩
  obtain ⟨_, _, hme, m31, m32⟩ := o10.sl
  simp only [Value.slice.injEq] at hme
  obtain ⟨rfl, rfl, rfl⟩ := hme
  have hacc2 : acc ++ [shA y x] = xs ++ (bs.take (k + 1)).map (shA y) := by rw [List.take_add_one, hx, List.map_append, ← List.append_assoc, ← hacc]; rfl
  have zz := s8.ge.sz
  have zz9 := s9.ge.sz
  simp (disch := first | omega | (simp only [e_ssz, e_psz, e_hszs, List.length_cons, List.length_nil]; try omega; done)) only [↓reduceIte, go_sem, e160]
  refine ⟨k + 1, ?_, by omega⟩
  rw [hI]
  refine ⟨u10, .slice a10 (acc ++ [shA y x]).length c10, by simp [upd, e5], by simp [upd, e17], by simp [upd, e18], by simp [upd], by simp [upd, e158], by simp [upd, e159], by simp [upd], hlt, st9.trans s10 (fun c hc qc => by have := ow.ge qc; omega), ((Br.step0 s8).step0 s9).step s10 (fun qc => hwr _ qc rfl), ((irs.mono s8.ge).mono s9.ge).mono s10.ge, ((ibs.mono s8.ge).mono s9.ge).mono s10.ge, ?_, fun c qc => (hO10 c qc).elim (hwr c) (fun z => by omega)⟩
  rw [← hacc2]; exact o10
def C_joins (vs : List Value) (h : H) (K : Value → H → Prop) : Prop := ∃ (u : U) (a b : List UInt8), vs = [str a, str b] ∧ a.length ≤ 140737488351232 ∧ b.length ≤ 140737488351232 ∧ LxG u h ∧ ∀ u' h', Step S0 u h u' h' → K (.bool true) h'
set_option maxHeartbeats 1000000 in
theorem ParseJoins_ok {vs : List Value} {h : H} {K : Value → H → Prop} {KP : List PanicEntry → H → Prop} (hC : C_joins vs h K) : HCX Tryd.prog 9 vs h K KP := by
  obtain ⟨u, a, b, rfl, hla, hlb, hG, hK⟩ := hC
  have hm := mlen'
  refine ParseJoins_H G_Joins G_Joins_ok _ _ ?_
  rw [joins_cut]
  by_cases h65 : 65536 < a.length + 1 + b.length
  · simp (disch := first | omega | (simp only [e_ssz, e_psz, e_hszs, List.length_cons, List.length_nil]; try omega; done)) only [↓reduceIte, go_sem, sF, sS, ParseJoins_S, ParseJoins_E, eq_true (show (65536 : Int) < (a.length : Nat) + 1 + (b.length : Nat) by omega)]
    exact hK _ _ (Step.refl _ _ _)
  have hl : a.length + 1 + b.length ≤ 65536 := by omega
  simp (disch := first | omega | (simp only [e_ssz, e_psz, e_hszs, List.length_cons, List.length_nil]; try omega; done)) only [↓reduceIte, go_sem, sF, sS, ParseJoins_S, ParseJoins_E, eq_false (show ¬ (65536 : Int) < (a.length : Nat) + 1 + (b.length : Nat) by omega)]
  refine effS_call (.inl ⟨rfl, u, a, rfl, by omega, hG, fun u1 h1 w1 s1 o1 => ⟨by simp (disch := first | omega | (simp only [e_ssz, e_psz, e_hszs, List.length_cons, List.length_nil]; try omega; done)) only [go_sem], ?_⟩⟩)
  have hj := @join_prog a b
  have hfc : (resProg a).2 = (0, 0) ∨ (resProg a).2.1 ≠ 0 := by
    rcases resProg_cases a with ⟨e, q, hne, -⟩ | ⟨a, q, -⟩
    · exact .inr (by rw [q]; exact hne)
    · exact .inl (by rw [q])
  have hgc : (resProg b).2 = (0, 0) ∨ (resProg b).2.1 ≠ 0 := by
    rcases resProg_cases b with ⟨e, q, hne, -⟩ | ⟨a, q, -⟩
    · exact .inr (by rw [q]; exact hne)
    · exact .inl (by rw [q])
  have hcl := resProg_len a
  have hdl := resProg_len b
  have hgo := flt_off 0 b
  rw [← resProg_flt] at hgo
  have hoff := prog_off b
  obtain ⟨P, hP⟩ : ∃ P, P = resProg a := ⟨_, rfl⟩
  obtain ⟨Q, hQ⟩ : ∃ Q, Q = resProg b := ⟨_, rfl⟩
  rw [← hP] at o1 hj hfc hcl ⊢
  rw [← hQ] at hj hgc hoff hdl hgo
  clear hP
  obtain ⟨xs, f⟩ := P
  simp only at o1 hj hfc hcl ⊢
  obtain ⟨a1, c1, rfl, m1, m2⟩ := o1.sl
  simp only [fltV]
  obtain ⟨u2, s2, B6, B7⟩ := two_new (u := u1) (h := h1) [.slice a1 xs.length c1] [.int .i64 f.1, .int .i64 0, .int .i64 f.2] 60 27
  obtain ⟨h2, hh2⟩ : ∃ h2, h2 = (h1.push (.cells #[.slice a1 xs.length c1] 60)).push (.cells #[.int .i64 f.1, .int .i64 0, .int .i64 f.2] 27) := ⟨_, rfl⟩
  rw [← hh2] at s2 B6 B7
  have o2 := o1.step0 s2
  have st2 := s1.trans0 s2
  have z2 : h2.size = h1.size + 2 := by rw [hh2]; simp
  simp (disch := first | omega | (simp only [e_ssz, e_psz, e_hszs, List.length_cons, List.length_nil]; try omega; done)) only [↓reduceIte, go_sem, ← hh2]
  refine effS_call (.inl ⟨rfl, u2, b, rfl, by omega, hG.mono st2.ge, fun u3 h3 w3 s3 o3 => ⟨by simp (disch := first | omega | (simp only [e_ssz, e_psz, e_hszs, List.length_cons, List.length_nil]; try omega; done)) only [go_sem], ?_⟩⟩)
  rw [← hQ] at o3 ⊢
  clear hQ
  obtain ⟨bs, g⟩ := Q
  simp only at o3 hj hgc hoff hdl hgo ⊢
  obtain ⟨a3, c3, rfl, n1, n2⟩ := o3.sl
  simp only [fltV]
  obtain ⟨u4, s4, B8, B9⟩ := two_new (u := u3) (h := h3) [.slice a3 bs.length c3] [.int .i64 g.1, .int .i64 0, .int .i64 g.2] 60 27
  obtain ⟨h4, hh4⟩ : ∃ h4, h4 = (h3.push (.cells #[.slice a3 bs.length c3] 60)).push (.cells #[.int .i64 g.1, .int .i64 0, .int .i64 g.2] 27) := ⟨_, rfl⟩
  rw [← hh4] at s4 B8 B9
  have D6 := (B6.step0 s3).step0 s4
  have D7 := (B7.step0 s3).step0 s4
  have o4 := (o2.step0 s3).step0 s4
  have i4 := o3.isSl.mono s4.ge
  have st4 := (st2.trans0 s3).trans0 s4
  have z4 : h4.size = h3.size + 2 := by rw [hh4]; simp
  have z1 := s1.ge.sz
  have z3 := s3.ge.sz
  have D61 := D6.1
  have D71 := D7.1
  have B81 := B8.1
  have B91 := B9.1
  have ho1 : ∀ c, OwnB (.slice a1 xs.length c1) c → c < h1.size := fun c qc => o1.lt qc
  obtain ⟨b6, hb6⟩ : ∃ b6, b6 = h1.size := ⟨_, rfl⟩
  obtain ⟨p, hp⟩ : ∃ p, p = b6 + 1 := ⟨_, rfl⟩
  obtain ⟨b8, hb8⟩ : ∃ b8, b8 = h3.size := ⟨_, rfl⟩
  obtain ⟨q, hq⟩ : ∃ q, q = b8 + 1 := ⟨_, rfl⟩
  rw [← hb6] at D6 D61
  rw [← hb6, ← hp] at D7 D71
  rw [← hb8] at B8 B81
  rw [← hb8, ← hq] at B9 B91
  have hpq : p ≠ q := by omega
  have hp0 : h.size ≤ p := by omega
  have hq0 : h.size ≤ q := by omega
  -- the facts' half, from any state behind
  have tl : ∀ (σ : Env) (u' : U) (h' : H) (g1 g2 g3 : Int), σ 0 = str a → σ 1 = str b → σ 5 = .int .i64 ((a.length + 1 : Nat) : Int) → σ 7 = .pointer (some ⟨p, 0, none⟩) → σ 9 = .pointer (some ⟨q, 0, none⟩) → Step S0 u h u' h' → Blk u' h' p [.int .i64 f.1, .int .i64 0, .int .i64 f.2] → Blk u' h' q [.int .i64 g1, .int .i64 g2, .int .i64 g3] →
      wpS G_Joins jT6 (retQ ParseJoins_E (callK K KP)) σ h' := by
    intro σ u' h' g1 g2 g3 e0 e1 e5 e7 e9 st Bp Bq
    exact joins_tail hl e0 e1 e5 e7 e9 hpq Bp Bq (hG.mono st.ge) (fun u2 h2 s2 => hK _ _ (st.trans s2 (fun c hc q' => by omega)))
  by_cases hcond : f = (0, 0) ∧ xs.length + b.length ≤ 512
  case neg =>
    by_cases hf : f.1 = 0
    · have hf0 : f = (0, 0) := hfc.resolve_right (fun q' => q' hf)
      have hf2 : f.2 = 0 := by rw [hf0]
      simp (disch := first | omega | (simp only [e_ssz, e_psz, e_hszs, List.length_cons, List.length_nil]; try omega; done)) only [↓reduceIte, go_sem, ← hh4, ← hb6, ← hp, ← hb8, ← hq, D6.at, D6.2.1, D7.at, D7.2.1, eq_true hf, eq_true hf2, eq_false (show ¬ ((xs.length : Nat) : Int) + (b.length : Nat) ≤ 512 by intro q'; exact hcond ⟨hf0, by omega⟩)]
      exact tl _ _ _ _ _ _ (by simp [upd]) (by simp [upd]) (by simp [upd]) (by simp [upd]) (by simp [upd]) st4 D7 B9
    · simp (disch := first | omega | (simp only [e_ssz, e_psz, e_hszs, List.length_cons, List.length_nil]; try omega; done)) only [↓reduceIte, go_sem, ← hh4, ← hb6, ← hp, ← hb8, ← hq, D6.at, D7.at, D7.2.1, eq_false hf]
      exact tl _ _ _ _ _ _ (by simp [upd]) (by simp [upd]) (by simp [upd]) (by simp [upd]) (by simp [upd]) st4 D7 B9
  obtain ⟨hf0, hlen⟩ := hcond
  have hf1 : f.1 = 0 := by rw [hf0]
  have hf2 : f.2 = 0 := by rw [hf0]
  obtain ⟨j1, j2⟩ := hj hf0 hl hlen
  simp (disch := first | omega | (simp only [e_ssz, e_psz, e_hszs, List.length_cons, List.length_nil]; try omega; done)) only [↓reduceIte, go_sem, ← hh4, ← hb6, ← hp, ← hb8, ← hq, D6.at, D6.2.1, D7.at, D7.2.1, eq_true hf1, eq_true hf2, eq_true (show ((xs.length : Nat) : Int) + (b.length : Nat) ≤ 512 by omega)]
  have hJ : a ++ [10] ++ b = a ++ 10 :: b := by simp
  rw [hJ]
  refine ⟨by omega, by omega, effS_call (.inl ⟨rfl, u4, a ++ 10 :: b, rfl, by simp; omega, hG.mono st4.ge, fun u5 h5 w5 s5 o5 => ⟨by simp (disch := first | omega | (simp only [e_ssz, e_psz, e_hszs, List.length_cons, List.length_nil]; try omega; done)) only [go_sem], ?_⟩⟩)⟩
  obtain ⟨R, hR⟩ : ∃ R, R = resProg (a ++ 10 :: b) := ⟨_, rfl⟩
  rw [← hR] at o5 j1 j2 ⊢
  clear hR
  obtain ⟨rs, e⟩ := R
  simp only at o5 j1 j2 ⊢
  obtain ⟨a5, c5, rfl, q1, q2⟩ := o5.sl
  simp only [fltV]
  obtain ⟨u6, s6, B10, B11⟩ := two_new (u := u5) (h := h5) [.slice a5 rs.length c5] [.int .i64 e.1, .int .i64 0, .int .i64 e.2] 60 27
  obtain ⟨h6, hh6⟩ : ∃ h6, h6 = (h5.push (.cells #[.slice a5 rs.length c5] 60)).push (.cells #[.int .i64 e.1, .int .i64 0, .int .i64 e.2] 27) := ⟨_, rfl⟩
  rw [← hh6] at s6 B10 B11
  have E6 := (D6.step0 s5).step0 s6
  have E7 := (D7.step0 s5).step0 s6
  have E8 := (B8.step0 s5).step0 s6
  have E9 := (B9.step0 s5).step0 s6
  have o6 := (o4.step0 s5).step0 s6
  have i6 := (i4.mono s5.ge).mono s6.ge
  have j6 := o5.isSl.mono s6.ge
  have st6 := (st4.trans0 s5).trans0 s6
  have z5 := s5.ge.sz
  have E61 := E6.1
  have E71 := E7.1
  have E81 := E8.1
  have E91 := E9.1
  have B101 := B10.1
  have B111 := B11.1
  obtain ⟨r0, hr0⟩ : ∃ r, r = h5.size := ⟨_, rfl⟩
  obtain ⟨r, hr⟩ : ∃ r, r = r0 + 1 := ⟨_, rfl⟩
  rw [← hr0] at B10 B101
  rw [← hr0, ← hr] at B11 B111
  have hrq : r ≠ q := by omega
  have hrq0 : r0 ≠ q := by omega
  rcases hgc with hg0 | hg
  case inr =>
    obtain ⟨hrs, he⟩ := Prod.mk.inj (j1 hg)
    have hrl : rs.length = 0 := by rw [hrs]; rfl
    have he1 : e.1 = g.1 := by rw [he]; unfold shE; rw [if_neg hg]
    have he2 : e.2 = g.2 + ((a.length + 1 : Nat) : Int) := by rw [he]; unfold shE; rw [if_neg hg]
    have W7 := E9.set (i := 2) (v := .int .i64 e.2) (by simp)
    have s7 := Step.set (S := fun c => c = q) u6 h6 (b := q) (o := 2) (.int .i64 e.2) rfl (by rw [E9.2.2.2.1]; exact Nat.zero_le _)
    obtain ⟨h7, hh7⟩ : ∃ h7, h7 = hset h6 q 2 (.int .i64 e.2) := ⟨_, rfl⟩
    rw [← hh7] at W7 s7
    simp only [List.set_cons_succ, List.set_cons_zero] at W7
    have X10 := B10.step s7 hrq0
    have X11 := B11.step s7 hrq
    have X7 := E7.step s7 hpq
    have W71 := W7.1
    have X101 := X10.1
    have X111 := X11.1
    have st7 : Step S0 u h u6 h7 := st6.trans s7 (fun c hc q' => by omega)
    have he2' : g.2 + (((a.length : Nat) : Int) + 1) = e.2 := by rw [he2]; omega
    simp (disch := first | omega | (simp only [e_ssz, e_psz, e_hszs, List.length_cons, List.length_nil]; try omega; done)) only [↓reduceIte, go_sem, ← hh6, ← hr0, ← hr, E9.at, E9.2.1, E9.2.2.1, eq_false hg, he2', ← hh7, W7.at, W7.2.1, X10.at, X10.2.1, X11.at, X11.2.1, eq_true he1, eq_true (show ((rs.length : Nat) : Int) = 0 by omega)]
    exact tl _ _ _ _ _ _ (by simp [upd]) (by simp [upd]) (by simp [upd]) (by simp [upd]) (by simp [upd]) st7 X7 W7
  have hg1 : g.1 = 0 := by rw [hg0]
  have hg2 : g.2 = 0 := by rw [hg0]
  obtain ⟨hrs, he⟩ := Prod.mk.inj (j2 hg0)
  have he1 : e.1 = 0 := by rw [he]
  have he2 : e.2 = 0 := by rw [he]
  simp (disch := first | omega | (simp only [e_ssz, e_psz, e_hszs, List.length_cons, List.length_nil]; try omega; done)) only [↓reduceIte, go_sem, ← hh6, ← hr0, ← hr, E6.at, E6.2.1, E8.at, E8.2.1, E9.at, E9.2.1, eq_true hg1, eq_true hg2]
  obtain ⟨y, hy⟩ : ∃ y, y = a.length + 1 := ⟨_, rfl⟩
  have hyI : ((a.length : Nat) : Int) + 1 = (y : Nat) := by omega
  have hy6 : y ≤ 1000000 := by omega
  rw [← hy] at hrs tl
  have hnr : ∀ c, OwnB (.slice a1 xs.length c1) c → c ≠ r ∧ c ≠ r0 ∧ c ≠ p ∧ c ≠ q := fun c qc => by have := ho1 c qc; omega
  obtain ⟨I, hI⟩ : ∃ I : Nat → Env → H → Prop, I = fun k σ' h' => ∃ (u' : U) (w : Value), (σ' 0 = str a ∧ σ' 1 = str b ∧ σ' 5 = .int .i64 (y : Nat) ∧ σ' 7 = .pointer (some ⟨p, 0, none⟩) ∧ σ' 9 = .pointer (some ⟨q, 0, none⟩)) ∧ σ' 10 = .pointer (some ⟨r0, 0, none⟩) ∧ σ' 11 = .pointer (some ⟨r, 0, none⟩) ∧ σ' 12 = w ∧ σ' 80 = .slice a3 bs.length c3 ∧ σ' 81 = .int .i64 (bs.length : Nat) ∧ σ' 82 = .int .i64 k ∧ k ≤ bs.length ∧
      Step S0 u h u' h' ∧ Blk u' h' p [.int .i64 f.1, .int .i64 0, .int .i64 f.2] ∧ Blk u' h' q [.int .i64 g.1, .int .i64 0, .int .i64 g.2] ∧ Blk u' h' r0 [.slice a5 rs.length c5] ∧ Blk u' h' r [.int .i64 e.1, .int .i64 0, .int .i64 e.2] ∧ IsSl u' h' (.slice a5 rs.length c5) rs ∧ IsSl u' h' (.slice a3 bs.length c3) bs ∧ Own h.size u' h' w (xs ++ (bs.take k).map (shC y)) ∧ (∀ c, OwnB w c → c ≠ r ∧ c ≠ r0 ∧ c ≠ p ∧ c ≠ q) := ⟨_, rfl⟩
  refine wpS_loop I (fun j => bs.length - j) 0 (by rw [hI]; exact ⟨u6, .slice a1 xs.length c1, ⟨by simp [upd], by simp [upd], by simp [upd, hyI], by simp [upd], by simp [upd]⟩, by simp [upd], by simp [upd], by simp [upd], by simp [upd], by simp [upd], by simp [upd], by omega, st6, E7, E9, B10, B11, j6, i6, by simpa using o6, hnr⟩) ?_
  clear B6 B7 B8 B9 D6 D7 E6 E7 E8 E9 B10 B11 o1 o2 o3 o4 o5 o6 i4 i6 j6 hh2 hh4 hh6 s1 s2 s3 s4 s5 s6 st2 st4 st6 hnr
  intro k σ' h' hy'
  rw [hI] at hy'
  obtain ⟨u', w, ⟨e0, e1, e5, e7, e9⟩, e10, e11, e12, e80, e81, e82, hk, st, Bp, Bq, Br0, Br, irs, ibs, ow, hwr⟩ := hy'
  obtain ⟨acc, hacc⟩ : ∃ acc, acc = xs ++ (bs.take k).map (shC y) := ⟨_, rfl⟩
  have hal : acc.length = xs.length + k := by rw [hacc, List.length_append, List.length_map, List.length_take]; omega
  rw [← hacc] at ow
  obtain ⟨wa, wc, rfl, z1, z2⟩ := ow.sl
  have Br1 := Br.1
  have Br01 := Br0.1
  by_cases hlt : k < bs.length
  case neg =>
    have hfull : acc = rs := by rw [hacc, hrs, List.take_of_length_le (by omega)]
    rw [hfull] at ow e12
    simp (disch := first | omega | (simp only [e_ssz, e_psz, e_hszs, List.length_cons, List.length_nil]; try omega; done)) only [↓reduceIte, go_sem, ParseJoins_L1, e10, e11, e12, e81, e82, eq_false (show ¬ (k : Int) < (bs.length : Nat) by omega), Br.at, Br.2.1, Br0.at, Br0.2.1, eq_true he1, eq_true he2]
    refine effS_call (.inr (.inr (.inr (.inr (.inl ⟨rfl, u', _, _, rs, rfl, irs, ow.isSl, fun u8 h8 s8 => ⟨by simp (disch := first | omega | (simp only [e_ssz, e_psz, e_hszs, List.length_cons, List.length_nil]; try omega; done)) only [go_sem], ?_⟩⟩)))))
    have st8 := st.trans0 s8
    simp (disch := first | omega | (simp only [e_ssz, e_psz, e_hszs, List.length_cons, List.length_nil]; try omega; done)) only [↓reduceIte, go_sem]
    exact tl _ _ _ _ _ _ (by simp [upd, e0]) (by simp [upd, e1]) (by simp [upd, e5]) (by simp [upd, e7]) (by simp [upd, e9]) st8 (Bp.step0 s8) (Bq.step0 s8)
  obtain ⟨x, hx⟩ : ∃ x, bs[k]? = some x := ⟨bs[k], by simp [hlt]⟩
  obtain ⟨hxa, hxb, hxl⟩ := hoff x (List.mem_of_getElem? hx)
  obtain ⟨pb, po, rfl, hpb, hpu, hpz, hpr⟩ := ibs.row k x hx
  rw [rep_clause] at hpr
  obtain ⟨xv, xw, hpr, ixv, ixw⟩ := hpr
  obtain ⟨xa, xc, rfl, -, -⟩ := ixv.sl
  obtain ⟨xb, xd, rfl, -, -⟩ := ixw.sl
  simp only [sz_clause, hvs_4, List.cons.injEq, and_true] at hpr hpu hpz
  obtain ⟨p0, p1, p2, p3⟩ := hpr
  obtain ⟨h7, h8, u8, hh7, hh8, B7, B8, s8, hz8⟩ := boxed u' h' [str [], .slice none 0 0, .int .i64 0, .slice none 0 0] [str x.1.1, .slice xa x.1.2.1.length xc, .int .i64 x.1.2.2, .slice xb x.2.length xd] 56 rfl
  have B71 := B7.1
  have B81 := B8.1
  have st8 := st.trans0 s8
  simp (disch := first | omega | (simp only [e_ssz, e_psz, e_hszs, List.length_cons, List.length_nil]; try omega; done)) only [↓reduceIte, go_sem, ParseJoins_L1, e5, e80, e81, e82, eq_true (show (k : Int) < (bs.length : Nat) by omega), p0, p1, p2, p3, ← hh7, ← hh8, B7.2.1, B7.2.2.1, B8.at, B8.2.1]
  refine effS_call (.inr (.inr (.inl ⟨rfl, u8, _, x.1, y, rfl, ixv.mono s8.ge, hxa, hy6, fun u9 h9 w9 s9 o9 => ⟨?_, ?_⟩⟩)))
  · have C8 := B8.step0 s9
    have C81 := C8.1
    simp (disch := first | omega | (simp only [e_ssz, e_psz, e_hszs, List.length_cons, List.length_nil]; try omega; done)) only [↓reduceIte, go_sem, C8.at, C8.2.1, B8.at]
  obtain ⟨ya, yc, rfl, -, -⟩ := o9.sl
  have st9 := st8.trans0 s9
  simp (disch := first | omega | (simp only [e_ssz, e_psz, e_hszs, List.length_cons, List.length_nil]; try omega; done)) only [↓reduceIte, go_sem, e5]
  refine effS_call (.inr (.inr (.inr (.inl ⟨rfl, u9, _, x.2, y, rfl, (ixw.mono s8.ge).mono s9.ge, ⟨hxb, hxl⟩, hy6, fun u10 h10 w10 s10 o10 => ⟨by simp (disch := first | omega | (simp only [e_ssz, e_psz, e_hszs, List.length_cons, List.length_nil]; try omega; done)) only [go_sem], ?_⟩⟩))))
  obtain ⟨ba, bc, rfl, -, -⟩ := o10.sl
  have ow10 := ((ow.step0 s8).step0 s9).step0 s10
  have st10 := st9.trans0 s10
  have hbl : (x.2.map (shL y)).length = x.2.length := List.length_map _
  have hxr : Rep.rep u10 h10 (shC y x) [str x.1.1, .slice ya (shA y x.1).2.1.length yc, .int .i64 (shA y x.1).2.2, .slice ba (x.2.map (shL y)).length bc] := by rw [rep_clause]; exact ⟨_, _, rfl, o9.isSl.mono s10.ge, o10.isSl⟩
  simp (disch := first | omega | (simp only [e_ssz, e_psz, e_hszs, List.length_cons, List.length_nil]; try omega; done)) only [↓reduceIte, go_sem, e12]
  refine effS_app1q rfl ow10 (x := shC y x) hxr rfl rfl (by have := st10.ge.sz; omega) (by omega) fun a11 n11 c11 u11 h11 o11 s11 hO11 => ⟨by simp (disch := first | omega | (simp only [e_ssz, e_psz, e_hszs, List.length_cons, List.length_nil]; try omega; done)) only [go_sem], ?_⟩
  obtain ⟨_, _, hme, m31, m32⟩ := o11.sl
  simp only [Value.slice.injEq] at hme
  obtain ⟨rfl, rfl, rfl⟩ := hme
  have hacc2 : acc ++ [shC y x] = xs ++ (bs.take (k + 1)).map (shC y) := by rw [List.take_add_one, hx, List.map_append, ← List.append_assoc, ← hacc]; rfl
  have zz := s8.ge.sz
  have zz9 := s9.ge.sz
  have zz10 := s10.ge.sz
  have Bq1 := Bq.1
  have Bp1 := Bp.1
  simp (disch := first | omega | (simp only [e_ssz, e_psz, e_hszs, List.length_cons, List.length_nil]; try omega; done)) only [↓reduceIte, go_sem, e82]
  refine ⟨k + 1, ?_, by omega⟩
  rw [hI]
  refine ⟨u11, .slice a11 (acc ++ [shC y x]).length c11, ⟨by simp [upd, e0], by simp [upd, e1], by simp [upd, e5], by simp [upd, e7], by simp [upd, e9]⟩, by simp [upd, e10], by simp [upd, e11], by simp [upd], by simp [upd, e80], by simp [upd, e81], by simp [upd], hlt, st10.trans s11 (fun c hc qc => by have := ow.ge qc; omega),
    (((Bp.step0 s8).step0 s9).step0 s10).step s11 (fun qc => (hwr _ qc).2.2.1 rfl), (((Bq.step0 s8).step0 s9).step0 s10).step s11 (fun qc => (hwr _ qc).2.2.2 rfl), (((Br0.step0 s8).step0 s9).step0 s10).step s11 (fun qc => (hwr _ qc).2.1 rfl), (((Br.step0 s8).step0 s9).step0 s10).step s11 (fun qc => (hwr _ qc).1 rfl),
    (((irs.mono s8.ge).mono s9.ge).mono s10.ge).mono s11.ge, (((ibs.mono s8.ge).mono s9.ge).mono s10.ge).mono s11.ge, ?_, fun c qc => (hO11 c qc).elim (hwr c) (fun z => by omega)⟩
  rw [← hacc2]; exact o11
theorem ParseJoins_hc {a b : List UInt8} {h : H} (hla : a.length ≤ 140737488351232) (hlb : b.length ≤ 140737488351232) (hG : LxG (hsz h) h) : HCX Tryd.prog 9 [str a, str b] h (fun v h' => v = .bool true ∧ Ext0 h h') fun _ _ => False :=
  ParseJoins_ok ⟨hsz h, a, b, rfl, hla, hlb, hG, fun u' h' st => ⟨rfl, st.ext⟩⟩
end Go.Proofs.YtmnfhmbmifompaaDoor
