/- The document's answer, walked: Program. -/
import Derived.Test.YtmnfhmbmifompaaGreatDoorPrQ
import Derived.Test.YtmnfhmbmifompaaGreatDoorPsPg
namespace Edict
theorem prog_check {src : List UInt8} : (∀ e, parseF (fun b l => progD b [] l) src = .error e → checkF 0 src = e ∧ e.1 ≠ 0) ∧ ∀ a, parseF (fun b l => progD b [] l) src = .ok a → checkF 0 src = (0, 0) ∧ a = (sentF (scanF src).1).map clauseF ∧ a.length ≤ 512 ∧ ∀ s ∈ sentF (scanF src).1, ClauseWf s := by
  unfold parseF checkF
  by_cases h : 65536 < src.length
  · rw [if_pos h, if_pos h]
    exact ⟨fun e q => by cases q; exact ⟨rfl, (show (1 : Int) ≠ 0 by decide)⟩, fun a q => by cases q⟩
  · rw [if_neg h, if_neg h]
    exact prog_same (good_src (by omega))
theorem clauseF_1 {s a : List Tok} (h : cutF 9 0 [] s = [a]) : clauseF s = (atomF a, []) := by unfold clauseF; rw [h]
theorem clauseF_2 {s a b : List Tok} (h : cutF 9 0 [] s = [a, b]) : clauseF s = (atomF a, bodyF3 b) := by unfold clauseF; rw [h]
end Edict
namespace Go.Proofs.YtmnfhmbmifompaaGreatDoor
open Go Go.Ev Edict
def C_rProg (vs : List Value) (h : H) (K : Value → H → Prop) : Prop := ∃ (u : U) (src : List UInt8), vs = [str src] ∧ src.length ≤ 9223372036854775807 ∧
  (∀ e, parseF (fun b l => progD b [] l) src = .error e → ∀ u' h', Step S0 u h u' h' → K (.tuple #[.agg #[.slice none 0 0], fltV e]) h') ∧
  (∀ l, parseF (fun b l => progD b [] l) src = .ok l → ∀ u' h' w, Step S0 u h u' h' → Own h.size u' h' w l → K (.tuple #[.agg #[w], fltV (0, 0)]) h')
def G_rPg : Ctr := fun f vs h K _ => (f = 15 ∧ C_rCheck vs h K) ∨ (f = 17 ∧ C_rSent vs h K) ∨ (f = 23 ∧ C_rCut vs h K) ∨ (f = 24 ∧ C_rAtom vs h K) ∨ (f = 16 ∧ C_rBody vs h K)
theorem G_rPg_ok : GOk Tryz.prog G_rPg := by
  rintro f vs h K KP (⟨rfl, hC⟩ | ⟨rfl, hC⟩ | ⟨rfl, hC⟩ | ⟨rfl, hC⟩ | ⟨rfl, hC⟩)
  · exact rpCheck_ok hC
  · exact rpSentences_ok hC
  · exact rpCut_ok hC
  · exact rpAtom_ok hC
  · exact rpBody_ok hC
theorem rpProgram_ok {vs : List Value} {h : H} {K : Value → H → Prop} {KP : List PanicEntry → H → Prop} (hC : C_rProg vs h K) : HCX Tryz.prog 9 vs h K KP := by
  obtain ⟨u, src, rfl, hl, hKE, hKO⟩ := hC
  refine rpProgram_H G_rPg G_rPg_ok _ ?_
  have s1 := Step.push0 S0 u h #[.slice none 0 0] 32
  have B1 := Blk.new (u := u) (h := h) [.slice none 0 0] 32
  obtain ⟨h1, hh1⟩ : ∃ h1, h1 = h.push (.cells #[.slice none 0 0] 32) := ⟨_, rfl⟩
  obtain ⟨u1, hu1⟩ : ∃ u1, u1 = ub u h.size 0 := ⟨_, rfl⟩
  have B1' : Blk u1 h1 h.size [.slice none 0 0] := by rw [hu1, hh1]; exact B1
  rw [← hh1, ← hu1] at s1
  clear B1
  have s2 := Step.push0 S0 u1 h1 #[.int .i64 0, .int .i64 0, .int .i64 0] 25
  have B2 := Blk.new (u := u1) (h := h1) [.int .i64 0, .int .i64 0, .int .i64 0] 25
  obtain ⟨h2, hh2⟩ : ∃ h2, h2 = h1.push (.cells #[.int .i64 0, .int .i64 0, .int .i64 0] 25) := ⟨_, rfl⟩
  obtain ⟨u2, hu2⟩ : ∃ u2, u2 = ub u1 h1.size 0 := ⟨_, rfl⟩
  have B2' : Blk u2 h2 h1.size [.int .i64 0, .int .i64 0, .int .i64 0] := by rw [hu2, hh2]; exact B2
  rw [← hh2, ← hu2] at s2
  clear B2
  have z1 : h1.size = h.size + 1 := by rw [hh1]; simp
  have z2 : h2.size = h1.size + 1 := by rw [hh2]; simp
  have B12 := B1'.step0 s2
  have st2 := s1.trans0 s2
  obtain ⟨hcE, hcO⟩ := prog_check (src := src)
  simp (disch := first | omega | (simp only [e_ssz, e_psz, e_hszs, List.length_cons, List.length_nil]; try omega; done)) only [↓reduceIte, go_sem, rpProgram_S, rpProgram_E, ← hh1, ← hh2]
  refine effS_call (.inl ⟨rfl, u2, src, 0, rfl, hl, by omega, fun hne u3 h3 s3 => ⟨by simp (disch := first | omega | (simp only [e_ssz, e_psz, e_hszs, List.length_cons, List.length_nil]; try omega; done)) only [go_sem], ?_⟩, fun heq u3 h3 w s3 ow => ⟨by simp (disch := first | omega | (simp only [e_ssz, e_psz, e_hszs, List.length_cons, List.length_nil]; try omega; done)) only [go_sem], ?_⟩⟩)
  · cases hp : parseF (fun b l => progD b [] l) src with
    | ok a => exact absurd (by rw [(hcO a hp).1]) hne
    | error f =>
      rw [(hcE f hp).1] at hne ⊢
      obtain ⟨h5, h6, u6, hh5, hh6, B5, A5, s6, hz6⟩ := boxed u3 h3 [.int .i64 0, .int .i64 0, .int .i64 0] [.int .i64 f.1, .int .i64 0, .int .i64 f.2] 25 rfl
      have A1' := (B12.step0 s3).step0 s6
      have A2' := (B2'.step0 s3).step0 s6
      have st := (st2.trans0 s3).trans0 s6
      have hz3 := s3.ge.sz
      have B51 := B5.1
      have A51 := A5.1
      have A11 := A1'.1
      have A21 := A2'.1
      have A17 := A1'.sets (l := [.slice none 0 0]) rfl
      have s7 := Step.sets (S := fun b => b = h.size) u6 h6 (b := h.size) (o := 0) [.slice none 0 0] rfl (by rw [A1'.2.2.2.1]; exact Nat.zero_le _) (by rw [A1'.2.1]; exact Nat.le_refl _)
      obtain ⟨h7, hh7⟩ : ∃ h7, h7 = hsets h6 h.size 0 [.slice none 0 0] := ⟨_, rfl⟩
      rw [← hh7] at A17 s7
      have A27 := A2'.step s7 (by omega)
      have A57 := A5.step s7 (by omega)
      have A28 := A27.sets (l := [.int .i64 f.1, .int .i64 0, .int .i64 f.2]) rfl
      have s8 := Step.sets (S := fun b => b = h1.size) u6 h7 (b := h1.size) (o := 0) [.int .i64 f.1, .int .i64 0, .int .i64 f.2] rfl (by rw [A27.2.2.2.1]; exact Nat.zero_le _) (by rw [A27.2.1]; exact Nat.le_refl _)
      obtain ⟨h8, hh8⟩ : ∃ h8, h8 = hsets h7 h1.size 0 [.int .i64 f.1, .int .i64 0, .int .i64 f.2] := ⟨_, rfl⟩
      rw [← hh8] at A28 s8
      have A18 := A17.step s8 (by omega)
      have st8 := (st.trans s7 (fun b hb q => by omega)).trans s8 (fun b hb q => by omega)
      have A181 := A18.1
      have A281 := A28.1
      have A571 := A57.1
      have A271 := A27.1
      have hK' := hKE f hp _ _ st8
      simp only [fltV] at hK' ⊢
      simp (disch := first | omega | (simp only [e_ssz, e_psz, e_hszs, List.length_cons, List.length_nil]; try omega; done)) only [↓reduceIte, go_sem, ← hh5, ← hh6, B5.2.1, B5.2.2.1, A5.at, A5.2.1, eq_false hne, A1'.2.1, A1'.2.2.1, ← hh7, A57.at, A57.2.1, A27.2.1, A27.2.2.1, ← hh8, A18.at, A18.2.1, A28.at, A28.2.1]
      exact hK'
  · cases hp : parseF (fun b l => progD b [] l) src with
    | error f => exact absurd (by rw [← (hcE f hp).1]; exact heq) (hcE f hp).2
    | ok a =>
    obtain ⟨-, ha, hal, hwf⟩ := hcO a hp
    have hK := hKO a hp
    have hLl := scanF_len src
    obtain ⟨L, hL⟩ : ∃ L, L = (scanF src).1 := ⟨_, rfl⟩
    rw [← hL] at ow ha hwf hLl
    obtain ⟨h5, h6, u6, hh5, hh6, B5, A5, s6, hz6⟩ := boxed u3 h3 [.int .i64 0, .int .i64 0, .int .i64 0] [.int .i64 0, .int .i64 0, .int .i64 0] 25 rfl
    have A16 := (B12.step0 s3).step0 s6
    have A26 := (B2'.step0 s3).step0 s6
    have st6 := (st2.trans0 s3).trans0 s6
    have ow6 := ow.step0 s6
    have hz3 := s3.ge.sz
    have B51 := B5.1
    have A51 := A5.1
    have sp := Step.push0 S0 u6 h6 #[.slice none 0 0] 32
    have Bp := Blk.new (u := u6) (h := h6) [.slice none 0 0] 32
    obtain ⟨hp', hhp⟩ : ∃ hp', hp' = h6.push (.cells #[.slice none 0 0] 32) := ⟨_, rfl⟩
    obtain ⟨up, hup⟩ : ∃ up, up = ub u6 h6.size 0 := ⟨_, rfl⟩
    have Bp' : Blk up hp' h6.size [.slice none 0 0] := by rw [hup, hhp]; exact Bp
    rw [← hhp, ← hup] at sp
    clear Bp
    have zp : hp'.size = h6.size + 1 := by rw [hhp]; simp
    obtain ⟨b6, hb6⟩ : ∃ b6, b6 = h6.size := ⟨_, rfl⟩
    have hb6' : h1.size < b6 := by omega
    obtain ⟨wa0, wc0, rfl, m1, m2⟩ := ow.sl
    simp only [fltV]
    simp (disch := first | omega | (simp only [e_ssz, e_psz, e_hszs, List.length_cons, List.length_nil]; try omega; done)) only [↓reduceIte, go_sem, ← hh5, ← hh6, B5.2.1, B5.2.2.1, A5.at, A5.2.1, ← hhp]
    refine effS_call (.inr (.inl ⟨rfl, up, _, L, rfl, (ow6.step0 sp).isSl, hLl, fun u7 h7 w7 s7 i7 => ⟨by simp (disch := first | omega | (simp only [e_ssz, e_psz, e_hszs, List.length_cons, List.length_nil]; try omega; done)) only [go_sem], ?_⟩⟩))
    obtain ⟨Z, hZ⟩ : ∃ Z, Z = sentF L := ⟨_, rfl⟩
    have hZe : ∀ s ∈ Z, s.length ≤ 65537 := fun s hs => by rw [hZ] at hs; have := sentF_each hs; omega
    rw [← hZ] at i7 ha hwf
    have hZl : Z.length ≤ 512 := by rw [ha, List.length_map] at hal; exact hal
    obtain ⟨wa, wc, rfl, n1, n2⟩ := i7.sl
    have A17 := (A16.step0 sp).step0 s7
    have A27 := (A26.step0 sp).step0 s7
    have X7 := Bp'.step0 s7
    have st7 := (st6.trans0 sp).trans0 s7
    rw [← hb6] at X7
    simp (disch := first | omega | (simp only [e_ssz, e_psz, e_hszs, List.length_cons, List.length_nil]; try omega; done)) only [↓reduceIte, go_sem, ← hb6]
    obtain ⟨I, hI⟩ : ∃ I : Nat → Env → H → Prop, I = fun k σ h' => ∃ (u' : U) (wv : Value), σ 2 = .pointer (some ⟨h.size, 0, none⟩) ∧ σ 3 = .pointer (some ⟨h1.size, 0, none⟩) ∧ σ 6 = .pointer (some ⟨b6, 0, none⟩) ∧ σ 22 = .slice wa Z.length wc ∧ σ 23 = .int .i64 (Z.length : Nat) ∧ σ 24 = .int .i64 k ∧ k ≤ Z.length ∧ Step S0 u h u' h' ∧ Blk u' h' h.size [.slice none 0 0] ∧ Blk u' h' h1.size [.int .i64 0, .int .i64 0, .int .i64 0] ∧ Blk u' h' b6 [wv] ∧ Own hp'.size u' h' wv ((Z.take k).map clauseF) ∧ IsSl u' h' (.slice wa Z.length wc) Z := ⟨_, rfl⟩
    refine wpS_loop I (fun j => Z.length - j) 0 (by rw [hI]; exact ⟨u7, _, by simp [upd], by simp [upd], by simp [upd], by simp [upd], by simp [upd], by simp [upd], by omega, st7, A17, A27, X7, .nil _ _ _, i7⟩) ?_
    have hzk : h.size < hp'.size ∧ h1.size < hp'.size ∧ b6 < hp'.size ∧ h.size < b6 := by omega
    obtain ⟨hk1, hk2, hk3, hk4⟩ := hzk
    have hz7 : hp'.size ≤ h7.size := s7.ge.sz
    clear hh5 hh6 B5 B51 A5 A51 A17 A27 X7 st7 i7 A16 A26 st6 ow6 s6 hh1 hh2 hhp Bp' sp B12 B2' B1' st2 s1 s2 hcE hcO hKE hKO
    intro k σ h' hy
    rw [hI] at hy
    obtain ⟨u', wv, e2, e3, e6, e22, e23, e24, hk', st, A, F, X, ow, iw⟩ := hy
    have hA1 := A.1
    have hF1 := F.1
    have hX1 := X.1
    have hz := st.ge.sz
    by_cases hlt : k < Z.length
    case neg =>
      obtain ⟨va, vc, rfl, n1, n2⟩ := ow.sl
      rw [List.take_of_length_le (by omega), ← ha] at ow X
      have A7 := A.sets (l := [.slice va a.length vc]) rfl
      have s7 := Step.sets (S := fun b => b = h.size) u' h' (b := h.size) (o := 0) [.slice va a.length vc] rfl (by rw [A.2.2.2.1]; exact Nat.zero_le _) (by rw [A.2.1]; exact Nat.le_refl _)
      obtain ⟨h9, hh9⟩ : ∃ h9, h9 = hsets h' h.size 0 [.slice va a.length vc] := ⟨_, rfl⟩
      rw [← hh9] at A7 s7
      have F7 := F.step s7 (by omega)
      have F8 := F7.sets (l := [.int .i64 0, .int .i64 0, .int .i64 0]) rfl
      have s8 := Step.sets (S := fun b => b = h1.size) u' h9 (b := h1.size) (o := 0) [.int .i64 0, .int .i64 0, .int .i64 0] rfl (by rw [F7.2.2.2.1]; exact Nat.zero_le _) (by rw [F7.2.1]; exact Nat.le_refl _)
      obtain ⟨h10, hh10⟩ : ∃ h10, h10 = hsets h9 h1.size 0 [.int .i64 0, .int .i64 0, .int .i64 0] := ⟨_, rfl⟩
      rw [← hh10] at F8 s8
      have A8 := A7.step s8 (by omega)
      have A81 := A8.1
      have F71 := F7.1
      have F81 := F8.1
      have hK' := hK _ _ _ ((st.trans s7 (fun b hb q => by omega)).trans s8 (fun b hb q => by omega)) (((ow.step s7 (fun b q q' => by have := ow.ge q; omega)).step s8 (fun b q q' => by have := ow.ge q; omega)).mono (by omega))
      simp only [fltV] at hK'
      simp (disch := first | omega | (simp only [e_ssz, e_psz, e_hszs, List.length_cons, List.length_nil]; try omega; done)) only [↓reduceIte, go_sem, rpProgram_L1, e2, e3, e6, e23, e24, eq_false (show ¬ (k : Int) < (Z.length : Nat) by omega), X.at, X.2.1, A.2.1, A.2.2.1, ← hh9, F7.2.1, F7.2.2.1, ← hh10, A8.at, A8.2.1, F8.at, F8.2.1]
      exact hK'
    obtain ⟨x, hx⟩ : ∃ x, Z[k]? = some x := ⟨Z[k], by simp [hlt]⟩
    have hxm := List.mem_of_getElem? hx
    have hxl := hZe _ hxm
    obtain ⟨a0, rest, hcut, hane, hrest⟩ := hwf _ hxm
    obtain ⟨pb, po, rfl, hpb, hpu, hpz, hpr⟩ := iw.row k _ hx
    rw [rep_list] at hpr
    obtain ⟨wx, hwx, ix⟩ := hpr
    have hszl : Rep.sz (List Tok) = 1 := rfl
    obtain ⟨xa, xc, rfl, -, -⟩ := ix.sl
    simp only [hszl, hvs_1, List.cons.injEq, and_true] at hwx hpu hpz
    simp (disch := first | omega | (simp only [e_ssz, e_psz, e_hszs, List.length_cons, List.length_nil]; try omega; done)) only [↓reduceIte, go_sem, rpProgram_L1, e22, e23, e24, eq_true (show (k : Int) < (Z.length : Nat) by omega), hwx]
    refine effS_call (.inr (.inr (.inl ⟨rfl, u', _, x, 9, rfl, ix, hxl, fun u3 h3 w3 s3 o3 => ⟨by simp (disch := first | omega | (simp only [e_ssz, e_psz, e_hszs, List.length_cons, List.length_nil]; try omega; done)) only [go_sem], ?_⟩⟩)))
    have hce : ∀ s ∈ cutF 9 0 [] x, s.length ≤ 65537 := fun s hs => by have := cutF_each 9 x 0 [] s hs; simp only [List.length_nil] at this; omega
    rw [hcut] at o3 hce
    have hal0 := hce a0 List.mem_cons_self
    obtain ⟨t, l, rfl⟩ : ∃ t l, a0 = t :: l := by
      cases a0 with
      | nil => exact absurd rfl hane
      | cons t l => exact ⟨t, l, rfl⟩
    have i3 := o3.isSl
    obtain ⟨ca, cc, rfl, k1, k2⟩ := o3.sl
    obtain ⟨cb, co, rfl, hcb, hcu, hcz, hcr⟩ := i3.row 0 _ rfl
    rw [rep_list] at hcr
    obtain ⟨wy, hwy, iy⟩ := hcr
    obtain ⟨ya, yc, rfl, -, -⟩ := iy.sl
    simp only [hszl, hvs_1, List.cons.injEq, and_true, Nat.zero_mul, Nat.add_zero] at hwy hcu hcz
    have A3 := A.step0 s3
    have F3 := F.step0 s3
    have X3 := X.step0 s3
    have ow3 := ow.step0 s3
    have iw3 := iw.mono s3.ge
    have st3 := st.trans0 s3
    have hkl : ((Z.take k).map clauseF).length = k := by simp; omega
    have hsn : (Z.take (k + 1)).map clauseF = (Z.take k).map clauseF ++ [clauseF x] := by
      rw [List.take_add_one, hx]; simp
    simp (disch := first | omega | (simp only [e_ssz, e_psz, e_hszs, List.length_cons, List.length_nil]; try omega; done)) only [↓reduceIte, go_sem, hwy, List.length_cons, eq_true (show (0 : Int) < ((rest.length + 1 : Nat) : Int) by omega)]
    refine effS_call (.inr (.inr (.inr (.inl ⟨rfl, u3, _, t, l, rfl, iy, by simp only [List.length_cons] at hal0; omega, fun u4 h4 w4 s4 o4 => ⟨by simp (disch := first | omega | (simp only [e_ssz, e_psz, e_hszs, List.length_cons, List.length_nil]; try omega; done)) only [go_sem], ?_⟩⟩))))
    have i4 := o4.isSl
    obtain ⟨w5a, w5c, rfl, k3, k4⟩ := o4.sl
    obtain ⟨h5, h6', u6', hh5, hh6, B5, C5, s5, hz5⟩ := boxed u4 h4 [str [], .slice none 0 0, .int .i64 0, .slice none 0 0] [str t.2.1, .slice w5a (argsOf l).length w5c, .int .i64 t.2.2.2.2.1, .slice none 0 0] 60 rfl
    have A5 := (A3.step0 s4).step0 s5
    have F5 := (F3.step0 s4).step0 s5
    have X5 := (X3.step0 s4).step0 s5
    have ow5 := (ow3.step0 s4).step0 s5
    have iw5 := (iw3.mono s4.ge).mono s5.ge
    have st5 := (st3.trans0 s4).trans0 s5
    have i5 := i4.mono s5.ge
    have c5 := (i3.mono s4.ge).mono s5.ge
    have B51 := B5.1
    have C51 := C5.1
    have X51 := X5.1
    simp only [tX, tO]
    have hz34 : h'.size ≤ h4.size := by have := s3.ge.sz; have := s4.ge.sz; omega
    rcases hrest with rfl | ⟨b, rfl, hbw⟩
    · rw [clauseF_1 hcut] at hsn
      simp (disch := first | omega | (simp only [e_ssz, e_psz, e_hszs, List.length_cons, List.length_nil]; try omega; done)) only [↓reduceIte, go_sem, ← hh5, ← hh6, B5.2.1, B5.2.2.1, List.length_nil]
      obtain ⟨va, vc, rfl, n1, n2⟩ := ow.sl
      obtain ⟨y, hy⟩ : ∃ y : ClauseT, y = (atomF (t :: l), []) := ⟨_, rfl⟩
      rw [← hy] at hsn
      have hrep : Rep.rep u6' h6' y [str t.2.1, .slice w5a (argsOf l).length w5c, .int .i64 t.2.2.2.2.1, .slice none 0 0] := by rw [rep_clause, hy]; exact ⟨_, _, rfl, i5, .nil _ _⟩
      simp (disch := first | omega | (simp only [e_ssz, e_psz, e_hszs, List.length_cons, List.length_nil]; try omega; done)) only [go_sem, e6, X5.at, X5.2.1, C5.at, C5.2.1]
      refine effS_app1q (by simp only []) ow5 (x := y) hrep rfl rfl (by have := st5.ge.sz; omega) (by omega) fun a8 n8 c8 u8 h8 o8 s8 hO8 => ⟨by simp (disch := first | omega | (simp only [e_ssz, e_psz, e_hszs, List.length_cons, List.length_nil]; try omega; done)) only [go_sem], ?_⟩
      obtain ⟨_, _, hme, m81, m82⟩ := o8.sl
      simp only [Value.slice.injEq] at hme
      obtain ⟨rfl, rfl, rfl⟩ := hme
      rw [← hsn] at o8 ⊢
      have X8 := X5.step s8 (fun q => by have := ow5.ge q; omega)
      have st8 := st5.trans s8 (fun b hb q => by have := ow5.ge q; omega)
      have X81 := X8.1
      have i8 := iw5.mono s8.ge
      have A8 := A5.step s8 (fun q => by have := ow5.ge q; omega)
      have F8 := F5.step s8 (fun q => by have := ow5.ge q; omega)
      obtain ⟨nl, hnl⟩ : ∃ nl, nl = ((Z.take (k + 1)).map clauseF).length := ⟨_, rfl⟩
      rw [← hnl] at o8 ⊢
      have X9 := X8.set (i := 0) (v := .slice a8 nl c8) (by simp)
      have s9 := Step.set (S := fun b => b = b6) u8 h8 (b := b6) (o := 0) (.slice a8 nl c8) rfl (by rw [X8.2.2.2.1]; exact Nat.zero_le _)
      obtain ⟨h9, hh9⟩ : ∃ h9, h9 = hset h8 b6 0 (.slice a8 nl c8) := ⟨_, rfl⟩
      rw [← hh9] at X9 s9
      simp only [List.set_cons_zero] at X9
      have o9 := o8.step s9 (fun b q q' => by have := o8.ge q; omega)
      simp (disch := first | omega | (simp only [e_ssz, e_psz, e_hszs, List.length_cons, List.length_nil]; try omega; done)) only [↓reduceIte, go_sem, e6, e24, X8.2.1, X8.2.2.1, ← hh9]
      refine ⟨k + 1, ?_, by omega⟩
      rw [hI]
      refine ⟨u8, _, ?_, ?_, ?_, ?_, ?_, ?_, hlt, st8.trans s9 (fun b hb q => by omega), A8.step s9 (by omega), F8.step s9 (by omega), X9, o9, i8.mono s9.ge⟩ <;> simp [upd, e2, e3, e6, e22, e23]
    · rw [clauseF_2 hcut] at hsn
      have hbl := hce b (by simp)
      obtain ⟨cb', co', he, hdb, hdu, hdz, hdr⟩ := c5.row 1 b rfl
      cases he
      rw [rep_list] at hdr
      obtain ⟨wz, hwz, iz⟩ := hdr
      obtain ⟨za, zc, rfl, -, -⟩ := iz.sl
      simp only [hszl, hvs_1, List.cons.injEq, and_true, Nat.one_mul] at hwz hdu hdz
      simp (disch := first | omega | (simp only [e_ssz, e_psz, e_hszs, List.length_cons, List.length_nil]; try omega; done)) only [↓reduceIte, go_sem, ← hh5, ← hh6, B5.2.1, B5.2.2.1, List.length_cons, List.length_nil, hwz]
      refine effS_call (.inr (.inr (.inr (.inr ⟨rfl, u6', _, b, rfl, iz, hbl, hbw, fun u7 h7 w7 s7 o7 => ⟨by simp (disch := first | omega | (simp only [e_ssz, e_psz, e_hszs, List.length_cons, List.length_nil]; try omega; done)) only [go_sem], ?_⟩⟩))))
      have i7b := o7.isSl
      obtain ⟨ba, bc, rfl, -, -⟩ := o7.sl
      have C7 := C5.step0 s7
      have C71 := C7.1
      have C8 := C7.set (i := 3) (v := .slice ba (bodyF3 b).length bc) (by simp)
      have s8' := Step.set (S := fun i => i = h4.size) u7 h7 (b := h4.size) (o := 3) (.slice ba (bodyF3 b).length bc) rfl (by rw [C7.2.2.2.1]; exact Nat.zero_le _)
      obtain ⟨h7', hh7'⟩ : ∃ h7', h7' = hset h7 h4.size 3 (.slice ba (bodyF3 b).length bc) := ⟨_, rfl⟩
      rw [← hh7'] at C8 s8'
      simp only [List.set_cons_succ, List.set_cons_zero] at C8
      have A7 := (A5.step0 s7).step s8' (by omega)
      have F7 := (F5.step0 s7).step s8' (by omega)
      have X7 := (X5.step0 s7).step s8' (by omega)
      have ow7 := (ow5.step0 s7).step s8' (fun b q q' => by have := (ow.lt q); omega)
      have iw7 := (iw5.mono s7.ge).mono s8'.ge
      have st7 := (st5.trans0 s7).trans s8' (fun b hb q => by omega)
      have C81 := C8.1
      have X71 := X7.1
      simp (disch := first | omega | (simp only [e_ssz, e_psz, e_hszs, List.length_cons, List.length_nil]; try omega; done)) only [↓reduceIte, go_sem, C7.2.1, C7.2.2.1, ← hh7']
      obtain ⟨va, vc, rfl, n1, n2⟩ := ow.sl
      obtain ⟨y, hy⟩ : ∃ y : ClauseT, y = (atomF (t :: l), bodyF3 b) := ⟨_, rfl⟩
      rw [← hy] at hsn
      have hrep : Rep.rep u7 h7' y [str t.2.1, .slice w5a (argsOf l).length w5c, .int .i64 t.2.2.2.2.1, .slice ba (bodyF3 b).length bc] := by rw [rep_clause, hy]; exact ⟨_, _, rfl, ((i5.mono s7.ge).mono s8'.ge), (i7b.mono s8'.ge)⟩
      simp (disch := first | omega | (simp only [e_ssz, e_psz, e_hszs, List.length_cons, List.length_nil]; try omega; done)) only [go_sem, e6, X7.at, X7.2.1, C8.at, C8.2.1]
      refine effS_app1q (by simp only []) ow7 (x := y) hrep rfl rfl (by have := st7.ge.sz; omega) (by omega) fun a8 n8 c8 u8 h8 o8 s8 hO8 => ⟨by simp (disch := first | omega | (simp only [e_ssz, e_psz, e_hszs, List.length_cons, List.length_nil]; try omega; done)) only [go_sem], ?_⟩
      obtain ⟨_, _, hme, m81, m82⟩ := o8.sl
      simp only [Value.slice.injEq] at hme
      obtain ⟨rfl, rfl, rfl⟩ := hme
      rw [← hsn] at o8 ⊢
      have X8 := X7.step s8 (fun q => by have := ow7.ge q; omega)
      have st8 := st7.trans s8 (fun b hb q => by have := ow7.ge q; omega)
      have X81 := X8.1
      have i8 := iw7.mono s8.ge
      have A8 := A7.step s8 (fun q => by have := ow7.ge q; omega)
      have F8 := F7.step s8 (fun q => by have := ow7.ge q; omega)
      obtain ⟨nl, hnl⟩ : ∃ nl, nl = ((Z.take (k + 1)).map clauseF).length := ⟨_, rfl⟩
      rw [← hnl] at o8 ⊢
      have X9 := X8.set (i := 0) (v := .slice a8 nl c8) (by simp)
      have s9 := Step.set (S := fun b => b = b6) u8 h8 (b := b6) (o := 0) (.slice a8 nl c8) rfl (by rw [X8.2.2.2.1]; exact Nat.zero_le _)
      obtain ⟨h9, hh9⟩ : ∃ h9, h9 = hset h8 b6 0 (.slice a8 nl c8) := ⟨_, rfl⟩
      rw [← hh9] at X9 s9
      simp only [List.set_cons_zero] at X9
      have o9 := o8.step s9 (fun b q q' => by have := o8.ge q; omega)
      simp (disch := first | omega | (simp only [e_ssz, e_psz, e_hszs, List.length_cons, List.length_nil]; try omega; done)) only [↓reduceIte, go_sem, e6, e24, X8.2.1, X8.2.2.1, ← hh9]
      refine ⟨k + 1, ?_, by omega⟩
      rw [hI]
      refine ⟨u8, _, ?_, ?_, ?_, ?_, ?_, ?_, hlt, st8.trans s9 (fun b hb q => by omega), A8.step s9 (by omega), F8.step s9 (by omega), X9, o9, i8.mono s9.ge⟩ <;> simp [upd, e2, e3, e6, e22, e23]
end Go.Proofs.YtmnfhmbmifompaaGreatDoor
