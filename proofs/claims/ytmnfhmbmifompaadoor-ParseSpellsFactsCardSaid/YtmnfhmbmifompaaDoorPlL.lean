/- The laws' own, walked: literal of the token walk. -/
import Derived.Test.YtmnfhmbmifompaaDoorPlK
namespace Go.Proofs.YtmnfhmbmifompaaDoor
open Go Go.Ev Edict
def C_noAtom (vs : List Value) (h : H) (K : Value → H → Prop) : Prop := ∃ (u : U) (w : Value), vs = [.agg #[str [], w, .int .i64 0]] ∧ IsSl u h w ([] : List TermT) ∧ ∀ u' h', Step S0 u h u' h' → K (.bool true) h'
theorem plNoAtom_ok {vs : List Value} {h : H} {K : Value → H → Prop} {KP : List PanicEntry → H → Prop} (hC : C_noAtom vs h K) : HCX Tryd.prog 100 vs h K KP := by
  obtain ⟨u, w, rfl, iw, hK⟩ := hC
  obtain ⟨wa, wc, rfl, m1, m2⟩ := iw.sl
  refine plNoAtom_H (fun _ _ _ _ _ => False) (fun _ _ _ _ _ h => h.elim) _ ?_
  have s1 := Step.push0 S0 u h #[str [], .slice wa 0 wc, .int .i64 0] 52
  have B1 := Blk.new (u := u) (h := h) [str [], .slice wa 0 wc, .int .i64 0] 52
  obtain ⟨h1, hh1⟩ : ∃ h1, h1 = h.push (.cells #[str [], .slice wa 0 wc, .int .i64 0] 52) := ⟨_, rfl⟩
  rw [← hh1] at s1 B1
  have B11 := B1.1
  simp only [List.length_nil]
  simp (disch := first | omega | (simp only [e_ssz, e_psz, e_hszs, List.length_cons, List.length_nil]; try omega; done)) only [↓reduceIte, go_sem, plNoAtom_S, plNoAtom_E, ← hh1, B1.at, B1.2.1]
  exact hK _ _ s1
def C_wLit (vs : List Value) (h : H) (K : Value → H → Prop) : Prop := ∃ (u : U) (wb : Nat) (sl : Value) (L : List Tok) (i : Nat) (x : LitT) (w : Value) (q : List Tok), vs = [.pointer (some ⟨wb, 0, none⟩), .agg (litE x w).toArray] ∧ WkB u h wb sl L i ∧ IsSl u h w x.2.1.2.1 ∧ LitOk x (L.drop i) q ∧ (∀ t ∈ L, WfT t) ∧
  ∀ u' h' v i', Step (fun b => b = wb) u h u' h' → WkB u' h' wb sl L i' → L.drop i' = q → K v h'
def G_wLit : Ctr := fun f vs h K _ => (f = 34 ∧ C_eat vs h K) ∨ (f = 72 ∧ C_wTerm vs h K) ∨ (f = 33 ∧ C_wAtom vs h K) ∨ (f = 100 ∧ C_noAtom vs h K)
theorem G_wLit_ok : GOk Tryd.prog G_wLit := by
  rintro f vs h K KP (⟨rfl, hC⟩ | ⟨rfl, hC⟩ | ⟨rfl, hC⟩ | ⟨rfl, hC⟩)
  · exact plEat_ok hC
  · exact plWTerm_ok hC
  · exact plWAtom_ok hC
  · exact plNoAtom_ok hC
theorem plWLit_ok {vs : List Value} {h : H} {K : Value → H → Prop} {KP : List PanicEntry → H → Prop} (hC : C_wLit vs h K) : HCX Tryd.prog 73 vs h K KP := by
  obtain ⟨u, wb, sl, L, i, x, w, q, rfl, hW, iw, ⟨h8, hx⟩, hwf, hK⟩ := hC
  refine plWLit_H G_wLit G_wLit_ok _ _ ?_
  have hwb : wb < h.size := hW.1.1
  have hne1 : h.size ≠ wb := by omega
  obtain ⟨wa, wc, rfl, m1, m2⟩ := iw.sl
  obtain ⟨x0, ⟨xp, xl, xo⟩, xop, ⟨l1, l2, l3, l4⟩, ⟨r1, r2, r3, r4⟩, xof⟩ := x
  simp only [litE] at hx h8 iw ⊢
  have s1 := Step.push0 S0 u h #[.int .i64 x0, str xp, .slice wa xl.length wc, .int .i64 xo, .int .i64 xop, .int .i64 l1, .int .i64 l2, str l3, .int .i64 l4, .int .i64 r1, .int .i64 r2, str r3, .int .i64 r4, .int .i64 xof] 129
  have B1 := Blk.new (u := u) (h := h) [.int .i64 x0, str xp, .slice wa xl.length wc, .int .i64 xo, .int .i64 xop, .int .i64 l1, .int .i64 l2, str l3, .int .i64 l4, .int .i64 r1, .int .i64 r2, str r3, .int .i64 r4, .int .i64 xof] 129
  obtain ⟨h1, hh1⟩ : ∃ h1, h1 = h.push (.cells #[.int .i64 x0, str xp, .slice wa xl.length wc, .int .i64 xo, .int .i64 xop, .int .i64 l1, .int .i64 l2, str l3, .int .i64 l4, .int .i64 r1, .int .i64 r2, str r3, .int .i64 r4, .int .i64 xof] 129) := ⟨_, rfl⟩
  obtain ⟨u1, hu1⟩ : ∃ u1, u1 = ub u h.size 0 := ⟨_, rfl⟩
  rw [← hh1, ← hu1] at s1 B1
  have B11 := B1.1
  have hW1 := hW.step0 s1
  have hB1 := hW1.1
  have hB11 := hB1.1
  have iw1 := iw.mono s1.ge
  have st1 : Step (fun b => b = wb) u h u1 h1 := s1.mono (fun _ _ q => q.elim)
  obtain ⟨h2, hh2, s2, hW2⟩ := hW1.good
  have B2 := B1.step s2 hne1
  have B21 := B2.1
  have iw2 := iw1.mono s2.ge
  have st2 := st1.trans s2 (fun _ _ q => q)
  rcases hx with ⟨rfl, ⟨rfl, hl, hr⟩, rfl, hA⟩ | ⟨rfl, ⟨rfl, hl, hr⟩, t, m, hd, ht, rfl, hA⟩ | ⟨rfl, ha, t, o, y, hd, hT, hl, ho, rfl, hY, hr, rfl⟩
  · simp only [noTerm, Prod.mk.injEq] at hl hr
    obtain ⟨rfl, rfl, rfl, rfl⟩ := hl
    obtain ⟨rfl, rfl, rfl, rfl⟩ := hr
    simp (disch := first | omega | (simp only [e_ssz, e_psz, e_hszs, List.length_cons, List.length_nil]; try omega; done)) only [↓reduceIte, go_sem, plWLit_S, plWLit_E, ← hh1, B1.at, B1.2.1, hB1.at, hB1.2.1, hB1.2.2.1, ← hh2, B2.at, B2.2.1]
    refine effS_call (.inr (.inr (.inl ⟨rfl, u1, wb, sl, L, i, (xp, xl, _), _, q, rfl, hW2, iw2, h8, hA, hwf, fun u5 h5 v5 i5 s5 hW5 hd5 => ⟨by simp (disch := first | omega | (simp only [e_ssz, e_psz, e_hszs, List.length_cons, List.length_nil]; try omega; done)) only [go_sem], ?_⟩⟩)))
    have hK' := fun v => hK _ _ v _ (st2.trans s5 (fun _ _ q => q)) hW5 hd5
    simp (disch := first | omega | (simp only [e_ssz, e_psz, e_hszs, List.length_cons, List.length_nil]; try omega; done)) only [go_sem]
    exact hK' _
  · simp only [noTerm, Prod.mk.injEq] at hl hr
    obtain ⟨rfl, rfl, rfl, rfl⟩ := hl
    obtain ⟨rfl, rfl, rfl, rfl⟩ := hr
    clear hh2 s2 hW2 B2 B21 iw2 st2
    simp (disch := first | omega | (simp only [e_ssz, e_psz, e_hszs, List.length_cons, List.length_nil]; try omega; done)) only [↓reduceIte, go_sem, plWLit_S, plWLit_E, ← hh1, B1.at, B1.2.1]
    refine effS_call (.inl ⟨rfl, u1, wb, sl, L, i, t, m, by rw [ht], hW1, hd, fun u2 h2 s2 hW2 => ⟨by simp (disch := first | omega | (simp only [e_ssz, e_psz, e_hszs, List.length_cons, List.length_nil]; try omega; done)) only [go_sem], ?_⟩⟩)
    have B2 := B1.step s2 hne1
    have iw2 := iw1.mono s2.ge
    have st2 := st1.trans s2 (fun _ _ q => q)
    simp only [tokE, tO]
    obtain ⟨h3, h4, u4, hh3, hh4, B3, B4, s4, hz4⟩ := boxed u2 h2 [.int .i64 0, str [], .int .i64 0, .int .i64 0, .int .i64 0, .int .i64 0] [.int .i64 t.1, str t.2.1, .int .i64 t.2.2.1, .int .i64 t.2.2.2.1, .int .i64 t.2.2.2.2.1, .int .i64 t.2.2.2.2.2] 75 rfl
    have B24 := B2.step0 s4
    have hW4 := hW2.step0 s4
    have iw4 := iw2.mono s4.ge
    have st4 := st2.trans0 s4
    have B31 := B3.1
    have B41 := B4.1
    have B241 := B24.1
    have hB4 := hW4.1
    have hB41 := hB4.1
    simp only [tO] at B24
    obtain ⟨h5, hh5, s5, hW5⟩ := hW4.good
    have B25 := B24.step s5 hne1
    have B251 := B25.1
    have iw5 := iw4.mono s5.ge
    have st5 := st4.trans s5 (fun _ _ q => q)
    simp (disch := first | omega | (simp only [e_ssz, e_psz, e_hszs, List.length_cons, List.length_nil]; try omega; done)) only [↓reduceIte, go_sem, ← hh3, ← hh4, B3.2.1, B3.2.2.1, B24.at, B24.2.1, hB4.at, hB4.2.1, hB4.2.2.1, B4.at, B4.2.1, ← hh5, B25.at, B25.2.1]
    refine effS_call (.inr (.inr (.inl ⟨rfl, u4, wb, sl, L, i + 1, (xp, xl, xo), _, q, rfl, hW5, iw5, h8, by rw [(drop_cons hd).2.2]; exact hA, hwf, fun u6 h6 v6 i6 s6 hW6 hd6 => ⟨by simp (disch := first | omega | (simp only [e_ssz, e_psz, e_hszs, List.length_cons, List.length_nil]; try omega; done)) only [go_sem], ?_⟩⟩)))
    have hK' := fun v => hK _ _ v _ (st5.trans s6 (fun _ _ q => q)) hW6 hd6
    simp (disch := first | omega | (simp only [e_ssz, e_psz, e_hszs, List.length_cons, List.length_nil]; try omega; done)) only [go_sem]
    exact hK' _
  · simp only [noAtom, Prod.mk.injEq] at ha
    obtain ⟨rfl, rfl, rfl⟩ := ha
    have hl4 : l4 = tO t := by
      have : (l1, l2, l3, l4).2.2.2 = (termD t).2.2.2 := by rw [hl]
      have h2 : (termD t).2.2.2 = tO t := by unfold termD; split <;> (try rfl); split <;> (try rfl); split <;> rfl
      exact this.trans h2
    rw [← hl4] at B1 B2 hh1
    obtain ⟨hlt, hget, hd1⟩ := drop_cons hd
    obtain ⟨hlt1, hget1, hd2⟩ := drop_cons hd1
    obtain ⟨hlt2, hget2, hd3⟩ := drop_cons hd2
    simp only [← hl4, List.length_nil] at hh1 B1 iw1 ⊢
    simp (disch := first | omega | (simp only [e_ssz, e_psz, e_hszs, List.length_cons, List.length_nil]; try omega; done)) only [↓reduceIte, go_sem, plWLit_S, plWLit_E, ← hh1, B1.at, B1.2.1, hB1.at, hB1.2.1]
    refine effS_call (.inr (.inr (.inr ⟨rfl, u1, _, rfl, iw1, fun u2 h2' s2' => ⟨by simp (disch := first | omega | (simp only [e_ssz, e_psz, e_hszs, List.length_cons, List.length_nil]; try omega; done)) only [go_sem], ?_⟩⟩)))
    clear hh2 s2 hW2 B2 B21 iw2 st2
    have B2 := B1.step0 s2'
    have hW2 := hW1.step0 s2'
    have st2 := st1.trans0 s2'
    have B21 := B2.1
    have hB2 := hW2.1
    have hB21 := hB2.1
    obtain ⟨h3, hh3, s3, hW3⟩ := hW2.good
    have B3 := B2.step s3 hne1
    have B31 := B3.1
    have st3 := st2.trans s3 (fun _ _ q => q)
    simp (disch := first | omega | (simp only [e_ssz, e_psz, e_hszs, List.length_cons, List.length_nil]; try omega; done)) only [↓reduceIte, go_sem, B2.at, B2.2.1, hB2.2.1, hB2.2.2.1, ← hh3, B3.at, B3.2.1]
    refine effS_call (.inr (.inl ⟨rfl, u2, wb, sl, L, i, t, _, by rw [← hl]; rfl, hW3, hd, hT, hwf t (List.mem_of_getElem? hget), fun u4 h4 v4 s4 hW4 => ⟨by simp (disch := first | omega | (simp only [e_ssz, e_psz, e_hszs, List.length_cons, List.length_nil]; try omega; done)) only [go_sem], ?_⟩⟩))
    have B4 := B3.step s4 hne1
    have st4 := st3.trans s4 (fun _ _ q => q)
    simp (disch := first | omega | (simp only [e_ssz, e_psz, e_hszs, List.length_cons, List.length_nil]; try omega; done)) only [↓reduceIte, go_sem]
    refine effS_call (.inl ⟨rfl, u4, wb, sl, L, i + 1, o, _, by rw [ho], hW4, hd1, fun u5 h5 s5 hW5 => ⟨by simp (disch := first | omega | (simp only [e_ssz, e_psz, e_hszs, List.length_cons, List.length_nil]; try omega; done)) only [go_sem], ?_⟩⟩)
    have B5 := B4.step s5 hne1
    have st5 := st4.trans s5 (fun _ _ q => q)
    simp only [tokE]
    obtain ⟨h6, h7, u7, hh6, hh7, B6, B7, s7, hz7⟩ := boxed u5 h5 [.int .i64 0, str [], .int .i64 0, .int .i64 0, .int .i64 0, .int .i64 0] [.int .i64 o.1, str o.2.1, .int .i64 o.2.2.1, .int .i64 o.2.2.2.1, .int .i64 o.2.2.2.2.1, .int .i64 o.2.2.2.2.2] 75 rfl
    have B57 := B5.step0 s7
    have hW7 := hW5.step0 s7
    have st7 := st5.trans0 s7
    have B61 := B6.1
    have B71 := B7.1
    have B571 := B57.1
    have hB7 := hW7.1
    have hB71 := hB7.1
    simp only [tP] at B57
    obtain ⟨h8', hh8, s8, hW8⟩ := hW7.good
    have B58 := B57.step s8 hne1
    have B581 := B58.1
    have st8 := st7.trans s8 (fun _ _ q => q)
    simp (disch := first | omega | (simp only [e_ssz, e_psz, e_hszs, List.length_cons, List.length_nil]; try omega; done)) only [↓reduceIte, go_sem, ← hh6, ← hh7, B6.2.1, B6.2.2.1, B57.at, B57.2.1, hB7.at, hB7.2.1, hB7.2.2.1, B7.at, B7.2.1, ← hh8, B58.at, B58.2.1]
    refine effS_call (.inr (.inl ⟨rfl, u7, wb, sl, L, i + 1 + 1, y, q, by rw [← hr]; rfl, hW8, hd2, hY, hwf y (List.mem_of_getElem? hget2), fun u9 h9 v9 s9 hW9 => ⟨by simp (disch := first | omega | (simp only [e_ssz, e_psz, e_hszs, List.length_cons, List.length_nil]; try omega; done)) only [go_sem], ?_⟩⟩))
    have hK' := fun v => hK _ _ v _ (st8.trans s9 (fun _ _ q => q)) hW9 hd3
    simp (disch := first | omega | (simp only [e_ssz, e_psz, e_hszs, List.length_cons, List.length_nil]; try omega; done)) only [go_sem]
    exact hK' _
end Go.Proofs.YtmnfhmbmifompaaDoor
