/- The document's answer, walked: Facts. -/
import Derived.Test.YtmnfhmbmifompaaDoorPrT
import Derived.Test.YtmnfhmbmifompaaDoorPsFs
namespace Edict
theorem facts_check {src : List UInt8} : (∀ e, parseF (fun b l => factsD b [] l) src = .error e → checkF 15 src = e ∧ e.1 ≠ 0) ∧ ∀ a, parseF (fun b l => factsD b [] l) src = .ok a → checkF 15 src = (0, 0) ∧ a = (sentF (scanF src).1).map atomF ∧ a.length ≤ 4096 ∧ ∀ s ∈ sentF (scanF src).1, s ≠ [] := by
  unfold parseF checkF
  by_cases h : 65536 < src.length
  · rw [if_pos h, if_pos h]
    exact ⟨fun e q => by cases q; exact ⟨rfl, (show (1 : Int) ≠ 0 by decide)⟩, fun a q => by cases q⟩
  · rw [if_neg h, if_neg h]
    exact facts_same (good_src (by omega))
theorem sentF_each {l : List Tok} {s : List Tok} (hs : s ∈ sentF l) : s.length ≤ l.length := by
  have := cutF_each 8 l 0 [] s (List.dropLast_subset _ hs)
  simpa using this
end Edict
namespace Go.Proofs.YtmnfhmbmifompaaDoor
open Go Go.Ev Edict
def C_rFacts (vs : List Value) (h : H) (K : Value → H → Prop) : Prop := ∃ (u : U) (src : List UInt8), vs = [str src] ∧ src.length ≤ 9223372036854775807 ∧
  (∀ e, parseF (fun b l => factsD b [] l) src = .error e → ∀ u' h', Step S0 u h u' h' → K (.tuple #[.slice none 0 0, fltV e]) h') ∧
  (∀ l, parseF (fun b l => factsD b [] l) src = .ok l → ∀ u' h' w, Step S0 u h u' h' → Own h.size u' h' w l → K (.tuple #[w, fltV (0, 0)]) h')
def G_rFs : Ctr := fun f vs h K _ => (f = 58 ∧ C_rCheck vs h K) ∨ (f = 63 ∧ C_rSent vs h K) ∨ (f = 59 ∧ C_rAtom vs h K)
theorem G_rFs_ok : GOk Tryd.prog G_rFs := by
  rintro f vs h K KP (⟨rfl, hC⟩ | ⟨rfl, hC⟩ | ⟨rfl, hC⟩)
  · exact rpCheck_ok hC
  · exact rpSentences_ok hC
  · exact rpAtom_ok hC
theorem rpFacts_ok {vs : List Value} {h : H} {K : Value → H → Prop} {KP : List PanicEntry → H → Prop} (hC : C_rFacts vs h K) : HCX Tryd.prog 23 vs h K KP := by
  obtain ⟨u, src, rfl, hl, hKE, hKO⟩ := hC
  refine rpFacts_H G_rFs G_rFs_ok _ ?_
  have s1 := Step.push0 S0 u h #[.int .i64 0, .int .i64 0, .int .i64 0] 27
  have B1 := Blk.new (u := u) (h := h) [.int .i64 0, .int .i64 0, .int .i64 0] 27
  obtain ⟨h1, hh1⟩ : ∃ h1, h1 = h.push (.cells #[.int .i64 0, .int .i64 0, .int .i64 0] 27) := ⟨_, rfl⟩
  obtain ⟨u1, hu1⟩ : ∃ u1, u1 = ub u h.size 0 := ⟨_, rfl⟩
  have B1' : Blk u1 h1 h.size [.int .i64 0, .int .i64 0, .int .i64 0] := by rw [hu1, hh1]; exact B1
  rw [← hh1, ← hu1] at s1
  clear B1
  have z1 : h1.size = h.size + 1 := by rw [hh1]; simp
  obtain ⟨hcE, hcO⟩ := facts_check (src := src)
  simp (disch := first | omega | (simp only [e_ssz, e_psz, e_hszs, List.length_cons, List.length_nil]; try omega; done)) only [↓reduceIte, go_sem, rpFacts_S, rpFacts_E, ← hh1]
  refine effS_call (.inl ⟨rfl, u1, src, 15, rfl, hl, by omega, fun hne u3 h3 s3 => ⟨by simp (disch := first | omega | (simp only [e_ssz, e_psz, e_hszs, List.length_cons, List.length_nil]; try omega; done)) only [go_sem], ?_⟩, fun heq u3 h3 w s3 ow => ⟨by simp (disch := first | omega | (simp only [e_ssz, e_psz, e_hszs, List.length_cons, List.length_nil]; try omega; done)) only [go_sem], ?_⟩⟩)
  · cases hp : parseF (fun b l => factsD b [] l) src with
    | ok a => exact absurd (by rw [(hcO a hp).1]) hne
    | error f =>
      rw [(hcE f hp).1] at hne ⊢
      obtain ⟨h5, h6, u6, hh5, hh6, B5, A5, s6, hz6⟩ := boxed u3 h3 [.int .i64 0, .int .i64 0, .int .i64 0] [.int .i64 f.1, .int .i64 0, .int .i64 f.2] 27 rfl
      have A1' := (B1'.step0 s3).step0 s6
      have st := (s1.trans0 s3).trans0 s6
      have hz3 := s3.ge.sz
      have B51 := B5.1
      have A51 := A5.1
      have A11 := A1'.1
      have w1 := A1'.sets (l := [.int .i64 f.1, .int .i64 0, .int .i64 f.2]) rfl
      have s7 := Step.sets (S := fun b => b = h.size) u6 h6 (b := h.size) (o := 0) [.int .i64 f.1, .int .i64 0, .int .i64 f.2] rfl (by rw [A1'.2.2.2.1]; exact Nat.zero_le _) (by rw [A1'.2.1]; exact Nat.le_refl _)
      have hK' := hKE f hp _ _ (st.trans s7 (fun b hb q => by omega))
      simp only [fltV] at hK' ⊢
      simp (disch := first | omega | (simp only [e_ssz, e_psz, e_hszs, List.length_cons, List.length_nil]; try omega; done)) only [↓reduceIte, go_sem, ← hh5, ← hh6, B5.2.1, B5.2.2.1, A5.at, A5.2.1, eq_false hne, A1'.2.1, A1'.2.2.1, w1.at, w1.2.1]
      exact hK'
  · cases hp : parseF (fun b l => factsD b [] l) src with
    | error f => exact absurd (by rw [← (hcE f hp).1]; exact heq) (hcE f hp).2
    | ok a =>
    obtain ⟨-, ha, hal, hne⟩ := hcO a hp
    have hK := hKO a hp
    have hLl := scanF_len src
    obtain ⟨L, hL⟩ : ∃ L, L = (scanF src).1 := ⟨_, rfl⟩
    rw [← hL] at ow ha hne hLl
    obtain ⟨h5, h6, u6, hh5, hh6, B5, A5, s6, hz6⟩ := boxed u3 h3 [.int .i64 0, .int .i64 0, .int .i64 0] [.int .i64 0, .int .i64 0, .int .i64 0] 27 rfl
    have A1' := (B1'.step0 s3).step0 s6
    have st6 := (s1.trans0 s3).trans0 s6
    have ow6 := ow.step0 s6
    have hz3 := s3.ge.sz
    have B51 := B5.1
    have A51 := A5.1
    obtain ⟨wa0, wc0, rfl, m1, m2⟩ := ow.sl
    simp only [fltV]
    simp (disch := first | omega | (simp only [e_ssz, e_psz, e_hszs, List.length_cons, List.length_nil]; try omega; done)) only [↓reduceIte, go_sem, ← hh5, ← hh6, B5.2.1, B5.2.2.1, A5.at, A5.2.1]
    refine effS_call (.inr (.inl ⟨rfl, u6, _, L, rfl, ow6.isSl, hLl, fun u7 h7 w7 s7 i7 => ⟨by simp (disch := first | omega | (simp only [e_ssz, e_psz, e_hszs, List.length_cons, List.length_nil]; try omega; done)) only [go_sem], ?_⟩⟩))
    obtain ⟨Z, hZ⟩ : ∃ Z, Z = sentF L := ⟨_, rfl⟩
    have hZe : ∀ s ∈ Z, s.length ≤ 65537 := fun s hs => by rw [hZ] at hs; have := sentF_each hs; omega
    rw [← hZ] at i7 ha hne
    have hZl : Z.length ≤ 4096 := by rw [ha, List.length_map] at hal; exact hal
    obtain ⟨wa, wc, rfl, n1, n2⟩ := i7.sl
    have A7 := A1'.step0 s7
    have st7 := st6.trans0 s7
    simp (disch := first | omega | (simp only [e_ssz, e_psz, e_hszs, List.length_cons, List.length_nil]; try omega; done)) only [↓reduceIte, go_sem]
    obtain ⟨I, hI⟩ : ∃ I : Nat → Env → H → Prop, I = fun k σ h' => ∃ (u' : U) (wv : Value), σ 3 = .pointer (some ⟨h.size, 0, none⟩) ∧ σ 6 = wv ∧ σ 19 = .slice wa Z.length wc ∧ σ 20 = .int .i64 (Z.length : Nat) ∧ σ 21 = .int .i64 k ∧ k ≤ Z.length ∧ Step S0 u h u' h' ∧ Blk u' h' h.size [.int .i64 0, .int .i64 0, .int .i64 0] ∧ Own h1.size u' h' wv ((Z.take k).map atomF) ∧ IsSl u' h' (.slice wa Z.length wc) Z := ⟨_, rfl⟩
    refine wpS_loop I (fun j => Z.length - j) 0 (by rw [hI]; exact ⟨u7, _, by simp [upd], by simp [upd], by simp [upd], by simp [upd], by simp [upd], by omega, st7, A7, .nil _ _ _, i7⟩) ?_
    clear hh5 hh6 B5 B51 A5 A51 A7 st7 i7 s7 A1' st6 ow6 s6 hh1
    intro k σ h' hy
    rw [hI] at hy
    obtain ⟨u', wv, e3, e6, e19, e20, e21, hk', st, A, ow, iw⟩ := hy
    obtain ⟨va, vc, rfl, n1, n2⟩ := ow.sl
    have hA1 := A.1
    have hz := st.ge.sz
    by_cases hlt : k < Z.length
    case neg =>
      rw [List.take_of_length_le (by omega), ← ha] at ow e6
      have w1 := A.sets (l := [.int .i64 0, .int .i64 0, .int .i64 0]) rfl
      have s7 := Step.sets (S := fun b => b = h.size) u' h' (b := h.size) (o := 0) [.int .i64 0, .int .i64 0, .int .i64 0] rfl (by rw [A.2.2.2.1]; exact Nat.zero_le _) (by rw [A.2.1]; exact Nat.le_refl _)
      have hK' := hK _ _ _ (st.trans s7 (fun b hb q => by omega)) ((ow.step s7 (fun b q q' => by have := ow.ge q; omega)).mono (by omega))
      simp only [fltV] at hK'
      simp (disch := first | omega | (simp only [e_ssz, e_psz, e_hszs, List.length_cons, List.length_nil]; try omega; done)) only [↓reduceIte, go_sem, rpFacts_L1, e3, e6, e20, e21, eq_false (show ¬ (k : Int) < (Z.length : Nat) by omega), A.2.1, A.2.2.1, w1.at, w1.2.1]
      exact hK'
    obtain ⟨x, hx⟩ : ∃ x, Z[k]? = some x := ⟨Z[k], by simp [hlt]⟩
    have hxm := List.mem_of_getElem? hx
    obtain ⟨t, r, rfl⟩ : ∃ t r, x = t :: r := by
      cases x with
      | nil => exact absurd rfl (hne _ hxm)
      | cons t r => exact ⟨t, r, rfl⟩
    have hxl := hZe _ hxm
    obtain ⟨pb, po, rfl, hpb, hpu, hpz, hpr⟩ := iw.row k _ hx
    rw [rep_list] at hpr
    obtain ⟨wx, hwx, ix⟩ := hpr
    have hszl : Rep.sz (List Tok) = 1 := rfl
    obtain ⟨xa, xc, rfl, -, -⟩ := ix.sl
    simp only [hszl, hvs_1, List.cons.injEq, and_true] at hwx hpu hpz
    simp (disch := first | omega | (simp only [e_ssz, e_psz, e_hszs, List.length_cons, List.length_nil]; try omega; done)) only [↓reduceIte, go_sem, rpFacts_L1, e19, e20, e21, eq_true (show (k : Int) < (Z.length : Nat) by omega), hwx]
    refine effS_call (.inr (.inr ⟨rfl, u', _, t, r, rfl, ix, by simp at hxl; omega, fun u4 h4 w4 s4 o4 => ⟨by simp (disch := first | omega | (simp only [e_ssz, e_psz, e_hszs, List.length_cons, List.length_nil]; try omega; done)) only [go_sem], ?_⟩⟩))
    obtain ⟨w4a, w4c, rfl, k1, k2⟩ := o4.sl
    have A4 := A.step0 s4
    have ow4 := ow.step0 s4
    have iw4 := iw.mono s4.ge
    have st4 := st.trans0 s4
    have hkl : ((Z.take k).map atomF).length = k := by simp; omega
    have hsn : (Z.take (k + 1)).map atomF = (Z.take k).map atomF ++ [atomF (t :: r)] := by
      rw [List.take_add_one, hx]; simp
    simp (disch := first | omega | (simp only [e_ssz, e_psz, e_hszs, List.length_cons, List.length_nil]; try omega; done)) only [↓reduceIte, go_sem, e6]
    refine effS_app1q (by simp only []) ow4 (x := atomF (t :: r)) (by rw [rep_atom]; exact ⟨_, rfl, o4.isSl⟩) rfl rfl (by have := s4.ge.sz; omega) (by omega) fun a5 n5 c5 u5 h5 o5 s5 hO5 => ⟨by simp (disch := first | omega | (simp only [e_ssz, e_psz, e_hszs, List.length_cons, List.length_nil]; try omega; done)) only [go_sem], ?_⟩
    rw [← hsn] at o5
    have st5 := st4.trans s5 (fun b hb q => by have := ow4.ge q; omega)
    simp (disch := first | omega | (simp only [e_ssz, e_psz, e_hszs, List.length_cons, List.length_nil]; try omega; done)) only [↓reduceIte, go_sem, e21]
    refine ⟨k + 1, ?_, by omega⟩
    rw [hI]
    refine ⟨u5, _, ?_, ?_, ?_, ?_, ?_, hlt, st5, A4.step s5 (fun q => by have := ow4.ge q; omega), o5, iw4.mono s5.ge⟩ <;> simp [upd, e3, e19, e20]
end Go.Proofs.YtmnfhmbmifompaaDoor
