/- The helpers of LexAll: copied, mark, played. -/
import Derived.Test.YtbkpmdgeeolifaaDoorLexL2
import Derived.Test.YtbkpmdgeeolifaaDoorLexH
import Derived.Test.YtbkpmdgeeolifaaDoorLawT
import Derived.Test.YtbkpmdgeeolifaaDoorPlc
namespace Go.Proofs.YtbkpmdgeeolifaaDoor
open Go Go.Ev Edict
def C_copied (vs : List Value) (h : H) (K : Value → H → Prop) : Prop := ∃ (u : U) (v : Value) (l : List Tok), vs = [v] ∧ IsSl u h v l ∧ l.length ≤ 65540 ∧ ∀ u' h' v', Step S0 u h u' h' → Own h.size u' h' v' l → K v' h'
theorem lwCopied_ok {vs : List Value} {h : H} {K : Value → H → Prop} {KP : List PanicEntry → H → Prop} (hC : C_copied vs h K) : HCX Tryd.prog 32 vs h K KP := by
  obtain ⟨u, v, L, rfl, hv, hlen, hK⟩ := hC
  obtain ⟨wa, wc, rfl, q1, q2⟩ := hv.sl
  have hm := mlen'
  refine lwCopied_H (fun _ _ _ _ _ => False) (fun _ _ _ _ _ h => h.elim) _ ?_
  simp (disch := first | omega | (simp only [e_ssz, e_psz, e_hszs, List.length_cons, List.length_nil]; try omega; done)) only [go_sem, lwCopied_S, lwCopied_E]
  obtain ⟨I, hI⟩ : ∃ I : Nat → Env → H → Prop, I = fun i σ h' => ∃ (u' : U) (v : Value), σ 0 = .slice wa L.length wc ∧ σ 3 = v ∧ σ 4 = .int .i64 i ∧ i ≤ L.length ∧ Step S0 u h u' h' ∧ Own h.size u' h' v (L.take i) := ⟨_, rfl⟩
  refine wpS_loop I (fun j => L.length - j) 0 (by rw [hI]; exact ⟨u, _, by simp [upd], by simp [upd], by simp [upd], by omega, Step.refl _ _ _, .nil _ _ _⟩) ?_
  intro i σ h' hy
  rw [hI] at hy
  obtain ⟨u', v, e0, e3, e4, hi, st', w⟩ := hy
  obtain ⟨a6, c6, rfl, m1, m2⟩ := w.sl
  have i' := hv.mono st'.ge
  by_cases hlt : i < L.length
  case neg =>
    rw [List.take_of_length_le (by omega)] at w e3
    simp (disch := first | omega | (simp only [e_ssz, e_psz, e_hszs, List.length_cons, List.length_nil]; try omega; done)) only [↓reduceIte, go_sem, lwCopied_L1, e0, e3, e4, hlt]
    exact hK _ _ _ st' w
  obtain ⟨t, ht⟩ : ∃ t, L[i]? = some t := ⟨L[i], by simp [hlt]⟩
  obtain ⟨pb, po, rfl, hpb, hpu, hpz, hpr⟩ := i'.row i t ht
  rw [rep_tok] at hpr
  simp only [tokE, sz_tok, hvs_6, List.cons.injEq, and_true] at hpr hpu hpz
  obtain ⟨p0, p1, p2, p3, p4, p5⟩ := hpr
  obtain ⟨acc, hacc⟩ : ∃ acc, acc = L.take i := ⟨_, rfl⟩
  have hacc2 : acc ++ [t] = L.take (i + 1) := by rw [hacc, List.take_add_one, ht]; rfl
  have hal : acc.length = i := by rw [hacc, List.length_take]; omega
  rw [← hacc] at w e3 m1
  simp (disch := first | omega | (simp only [e_ssz, e_psz, e_hszs, List.length_cons, List.length_nil]; try omega; done)) only [↓reduceIte, go_sem, lwCopied_L1, e0, e3, e4, hlt, p0, p1, p2, p3, p4, p5]
  refine effS_app1q (by simp only []) w (x := t) (by rw [rep_tok]; rfl) rfl rfl (by have := st'.ge.sz; omega) (by omega) fun a9 n9 c9 u9 h9 x9 s9 hO9 => ⟨by simp (disch := first | omega | (simp only [e_ssz, e_psz, e_hszs, List.length_cons, List.length_nil]; try omega; done)) only [go_sem], ?_⟩
  rw [hacc2] at x9
  simp (disch := first | omega | (simp only [e_ssz, e_psz, e_hszs, List.length_cons, List.length_nil]; try omega; done)) only [↓reduceIte, go_sem, e4]
  refine ⟨i + 1, ?_, by omega⟩
  rw [hI]
  refine ⟨u9, _, ?_, ?_, ?_, hlt, st'.trans s9 (fun b hb hq => by have := w.ge hq; omega), x9⟩ <;> simp [upd, e0]
/-- Only block b has turned, its size has not. -/
def Poke (b : Nat) (h h' : H) : Prop := h'.size = h.size ∧ (∀ x, x ≠ b → h'[x]? = h[x]?) ∧ hsz h' b = hsz h b ∧ hfr h' b = hfr h b
theorem Poke.sets {b : Nat} {h h' : H} (p : Poke b h h') (o : Nat) (l : List Value) : Poke b h (hsets h' b o l) :=
  ⟨by rw [hsets_size]; exact p.1, fun x hx => by rw [hsets_get _ _ _ _ _ hx]; exact p.2.1 x hx, by rw [hsets_hsz]; exact p.2.2.1, by rw [hsets_hfr]; exact p.2.2.2⟩
def markT (m : Int) (j : Nat) : Tok := (m, [], 0, 0, j, 0)
def C_mark (vs : List Value) (h : H) (K : Value → H → Prop) : Prop := ∃ (b n c : Nat) (m : Int), vs = [.slice (some ⟨b, 0, none⟩) n c, .int .i64 m] ∧ b < h.size ∧ hsz h b = c * 6 ∧ hfr h b = (0, 0) ∧ n ≤ c ∧ n ≤ 65540 ∧ ∀ h', Poke b h h' → (∀ j, j < n → hvs h' b (j * 6) 6 = tokE (markT m j)) → K (.tuple #[]) h'
theorem lwMark_ok {vs : List Value} {h : H} {K : Value → H → Prop} {KP : List PanicEntry → H → Prop} (hC : C_mark vs h K) : HCX Tryd.prog 31 vs h K KP := by
  obtain ⟨b, n, c, m, rfl, hb, hz, hf, hn, hn2, hK⟩ := hC
  refine lwMark_H (fun _ _ _ _ _ => False) (fun _ _ _ _ _ h => h.elim) _ _ ?_
  simp (disch := first | omega | (simp only [e_ssz, e_psz, e_hszs, List.length_cons, List.length_nil]; try omega; done)) only [go_sem, lwMark_S, lwMark_E]
  obtain ⟨I, hI⟩ : ∃ I : Nat → Env → H → Prop, I = fun j σ h' => σ 0 = .slice (some ⟨b, 0, none⟩) n c ∧ σ 1 = .int .i64 m ∧ σ 4 = .int .i64 j ∧ j ≤ n ∧ Poke b h h' ∧ ∀ i, i < j → hvs h' b (i * 6) 6 = tokE (markT m i) := ⟨_, rfl⟩
  refine wpS_loop I (fun j => n - j) 0 (by rw [hI]; exact ⟨by simp [upd], by simp [upd], by simp [upd], by omega, ⟨rfl, fun _ _ => rfl, rfl, rfl⟩, fun i hi => by omega⟩) ?_
  intro j σ h' hy
  rw [hI] at hy
  obtain ⟨e0, e1, e4, hj, hp, hr⟩ := hy
  obtain ⟨p1, p2, p3, p4⟩ := hp
  by_cases hlt : j < n
  case neg =>
    obtain rfl : j = n := by omega
    simp (disch := first | omega | (simp only [e_ssz, e_psz, e_hszs, List.length_cons, List.length_nil]; try omega; done)) only [↓reduceIte, go_sem, lwMark_L1, e0, e4]
    exact hK h' ⟨p1, p2, p3, p4⟩ hr
  have hbs : b < h'.size := by omega
  have hz' : hsz h' b = c * 6 := by omega
  have hf' : hfr h' b = (0, 0) := by rw [p4]; exact hf
  simp (disch := first | omega | (simp only [e_ssz, e_psz, e_hszs, List.length_cons, List.length_nil]; try omega; done)) only [↓reduceIte, go_sem, lwMark_L1, e0, e1, e4, hlt, hz', hf']
  refine ⟨by omega, by omega, j + 1, ?_, by omega⟩
  rw [hI]
  refine ⟨by simp [upd, e0], by simp [upd, e1], by simp [upd], hlt, Poke.sets ⟨p1, p2, p3, p4⟩ _ _, fun i hi => ?_⟩
  have hlen : (6 : Nat) = [Value.int .i64 m, str [], Value.int .i64 0, Value.int .i64 0, Value.int .i64 (j : Int), Value.int .i64 0].length := rfl
  by_cases hij : i = j
  · subst hij
    refine hvs_rows (fun q hq => ?_) rfl
    rw [hsets_hv _ _ _ _ _ (by simp only [List.length_cons, List.length_nil]; omega), if_pos ⟨by omega, by simp only [List.length_cons, List.length_nil]; omega⟩, Nat.add_sub_cancel_left]
    rfl
  · have := hr i (by omega)
    rw [hvs_6] at this ⊢
    have key : ∀ q, q < i * 6 + 6 → Go.Ev.hv (hsets h' b (j * 6) [Value.int .i64 m, str [], Value.int .i64 0, Value.int .i64 0, Value.int .i64 (j : Int), Value.int .i64 0]) b q = Go.Ev.hv h' b q := fun q hq => by
      rw [hsets_hv _ _ _ _ _ (by simp only [List.length_cons, List.length_nil]; omega), if_neg (by omega)]
    rw [key _ (by omega), key _ (by omega), key _ (by omega), key _ (by omega), key _ (by omega), key _ (by omega)]
    exact this
def C_LexBlankL (vs : List Value) (h : H) (K : Value → H → Prop) : Prop := ∃ (s : List UInt8) (a b : Int), vs = [str s, .int .i64 a, .int .i64 b] ∧ s.length ≤ 9223372036854775807 ∧ ∀ h', Ext h h' → K (.bool true) h'
theorem LexBlank_ok {vs : List Value} {h : H} {K : Value → H → Prop} {KP : List PanicEntry → H → Prop} (hC : C_LexBlankL vs h K) : HCX Tryd.prog 43 vs h K KP := by
  obtain ⟨s, a, b, rfl, hs, hK⟩ := hC
  refine LexBlank_H _ G_LexBlank_ok _ _ _ ?_
  simp (disch := first | omega | (simp only [e_ssz, e_psz, e_hszs, List.length_cons, List.length_nil]; try omega; done)) only [↓reduceIte, go_sem, e_call, LexBlank_S, LexBlank_E, G_LexBlank, C_lxBlank, C_rfBlank]
  exact ⟨hs, fun h' h1 => ⟨hs, hK h' h1⟩⟩
def C_LexPlaceL (vs : List Value) (h : H) (K : Value → H → Prop) : Prop := ∃ (s : List UInt8) (a : Int), vs = [str s, .int .i64 a] ∧ s.length ≤ 9223372036854775807 ∧ K (.bool true) h
theorem LexPlace_ok {vs : List Value} {h : H} {K : Value → H → Prop} {KP : List PanicEntry → H → Prop} (hC : C_LexPlaceL vs h K) : HCX Tryd.prog 44 vs h K KP := by
  obtain ⟨s, a, rfl, hs, hK⟩ := hC
  refine LexPlace_H _ G_LexPlace_ok _ _ ?_
  simp (disch := first | omega | (simp only [e_ssz, e_psz, e_hszs, List.length_cons, List.length_nil]; try omega; done)) only [↓reduceIte, go_sem, e_call, LexPlace_S, LexPlace_E, G_LexPlace, C_lxPlace, C_rfPlace]
  exact ⟨hs, hs, hK⟩
abbrev OpT := Int × List UInt8 × Int × Int
def C_played (vs : List Value) (h : H) (K : Value → H → Prop) : Prop := ∃ (u : U) (k : Int) (s : List UInt8) (a b : Int), vs = [.agg #[.int .i64 k, str s, .int .i64 a, .int .i64 b]] ∧ s.length ≤ 9223372036854775807 ∧ (-9223372036854775808 ≤ a ∧ a ≤ 9223372036854775807) ∧ LxG u h ∧
  ∀ u' h' v, Step S0 u h u' h' → Own h.size u' h' v (if k = 0 then (scanF s).1 else []) → K (.tuple #[.bool true, v]) h'
def G_played : Ctr := fun f vs h K _ => (f = 21 ∧ C_scan vs h K) ∨ (f = 15 ∧ C_rscan vs h K) ∨ (f = 18 ∧ C_same vs h K) ∨ (f = 3 ∧ C_law2 vs h K) ∨ (f = 43 ∧ C_LexBlankL vs h K) ∨ (f = 44 ∧ C_LexPlaceL vs h K)
theorem G_played_ok : GOk Tryd.prog G_played := by
  rintro f vs h K KP (⟨rfl, hC⟩ | ⟨rfl, hC⟩ | ⟨rfl, hC⟩ | ⟨rfl, hC⟩ | ⟨rfl, hC⟩ | ⟨rfl, hC⟩)
  · exact lxScan_ok hC
  · exact rfScan_ok hC
  · exact lwSame_ok hC
  · exact LexEach_ok hC
  · exact LexBlank_ok hC
  · exact LexPlace_ok hC
theorem lwPlayed_ok {vs : List Value} {h : H} {K : Value → H → Prop} {KP : List PanicEntry → H → Prop} (hC : C_played vs h K) : HCX Tryd.prog 30 vs h K KP := by
  obtain ⟨u, k, s, a, b, rfl, hl, ha, hG, hK⟩ := hC
  refine lwPlayed_H G_played G_played_ok _ ?_
  have B := Blk.new (u := u) (h := h) [.int .i64 k, str s, .int .i64 a, .int .i64 b] 58
  have sb := Step.push0 S0 u h #[.int .i64 k, str s, .int .i64 a, .int .i64 b] 58
  obtain ⟨h1, hh1⟩ : ∃ h1, h1 = h.push (.cells #[.int .i64 k, str s, .int .i64 a, .int .i64 b] 58) := ⟨_, rfl⟩
  obtain ⟨u1, hu1⟩ : ∃ u1, u1 = ub u h.size 0 := ⟨_, rfl⟩
  have hs1 : h1.size = h.size + 1 := by rw [hh1]; simp
  rw [← hh1, ← hu1] at B sb
  have B1 := B.1
  by_cases k0 : k = 0
  · subst k0
    simp only [if_true] at hK
    obtain ⟨c, hc⟩ : ∃ c, c = (scanF s).2.1 := ⟨_, rfl⟩
    obtain ⟨p, hp⟩ : ∃ p, p = (scanF s).2.2 := ⟨_, rfl⟩
    obtain ⟨L, hL⟩ : ∃ L, L = (scanF s).1 := ⟨_, rfl⟩
    rw [← hL] at hK
    simp (disch := first | omega | (simp only [e_ssz, e_psz, e_hszs, List.length_cons, List.length_nil]; try omega; done)) only [↓reduceIte, go_sem, lwPlayed_S, lwPlayed_E, ← hh1, B.at, B.2.1]
    refine effS_call (.inl ⟨rfl, u1, s, rfl, hl, hG.mono sb.ge, fun u2 h2 w s2 o2 => ⟨by simp (disch := first | omega | (simp only [e_ssz, e_psz, e_hszs, List.length_cons, List.length_nil]; try omega; done)) only [go_sem], ?_⟩⟩)
    rw [← hL] at o2
    obtain ⟨wa, wc, rfl, q1, q2⟩ := o2.sl
    rw [← hc, ← hp]
    have B2 := B.step0 s2
    have F3 := Blk.new (u := u2) (h := h2) (fltE c p) 25
    have s3 := Step.push0 S0 u2 h2 (fltE c p).toArray 25
    have o3 := o2.step0 s3
    have B3 := B2.step0 s3
    have st3 := (sb.trans0 s2).trans0 s3
    simp only [fltE] at F3 s3 o3 B3 st3
    simp only [fltE]
    obtain ⟨h3, hh3⟩ : ∃ h3, h3 = h2.push (.cells #[.int .i64 c, .int .i64 0, .int .i64 (p : Int)] 25) := ⟨_, rfl⟩
    obtain ⟨u3, hu3⟩ : ∃ u3, u3 = ub u2 h2.size 0 := ⟨_, rfl⟩
    rw [← hh3, ← hu3] at F3 o3 B3 st3
    have B31 := B3.1
    simp (disch := first | omega | (simp only [e_ssz, e_psz, e_hszs, List.length_cons, List.length_nil]; try omega; done)) only [↓reduceIte, go_sem, ← hh3, B3.at, B3.2.1]
    refine effS_call (.inr (.inl ⟨rfl, u3, s, rfl, hl, fun u4 h4 x s4 o4 => ⟨by simp (disch := first | omega | (simp only [e_ssz, e_psz, e_hszs, List.length_cons, List.length_nil]; try omega; done)) only [go_sem], ?_⟩⟩))
    rw [← hL] at o4
    obtain ⟨xa, xc, rfl, k1, k2⟩ := o4.sl
    rw [← hc, ← hp]
    have F5 := (F3.step0 s4).step0 (Step.push0 S0 u4 h4 (fltE c p).toArray 25)
    have E5 := Blk.new (u := u4) (h := h4) (fltE c p) 25
    have s5 := Step.push0 S0 u4 h4 (fltE c p).toArray 25
    have o5 := (o3.step0 s4).step0 s5
    have x5 := o4.step0 s5
    have st5 := (st3.trans0 s4).trans0 s5
    simp only [fltE] at F5 E5 s5 o5 x5 st5
    simp only [fltE]
    obtain ⟨h5, hh5⟩ : ∃ h5, h5 = h4.push (.cells #[.int .i64 c, .int .i64 0, .int .i64 (p : Int)] 25) := ⟨_, rfl⟩
    obtain ⟨u5, hu5⟩ : ∃ u5, u5 = ub u4 h4.size 0 := ⟨_, rfl⟩
    rw [← hh5, ← hu5] at F5 E5 o5 x5 st5
    have F51 := F5.1; have E51 := E5.1
    simp (disch := first | omega | (simp only [e_ssz, e_psz, e_hszs, List.length_cons, List.length_nil]; try omega; done)) only [↓reduceIte, go_sem, ← hh5, F5.at, F5.2.1, E5.at, E5.2.1]
    refine effS_call (.inr (.inr (.inl ⟨rfl, u5, _, _, L, L, rfl, o5.isSl, x5.isSl, ⟨by simp (disch := first | omega | (simp only [e_ssz, e_psz, e_hszs, List.length_cons, List.length_nil]; try omega; done)) only [go_sem], ?_⟩⟩)))
    simp (disch := first | omega | (simp only [e_ssz, e_psz, e_hszs, List.length_cons, List.length_nil]; try omega; done)) only [↓reduceIte, go_sem]
    exact hK _ _ _ st5 (o5.mono (by omega))
  have nil : ∀ u' h', Step S0 u1 h1 u' h' → K (.tuple #[.bool true, .slice none 0 0]) h' := fun u' h' w => hK _ _ _ (sb.trans0 w) (by rw [if_neg k0]; exact .nil _ _ _)
  by_cases k1 : k = 1
  · subst k1
    simp (disch := first | omega | (simp only [e_ssz, e_psz, e_hszs, List.length_cons, List.length_nil]; try omega; done)) only [↓reduceIte, go_sem, lwPlayed_S, lwPlayed_E, ← hh1, B.at, B.2.1]
    refine effS_call (.inr (.inr (.inr (.inl ⟨rfl, u1, s, a, rfl, hl, ha, hG.mono sb.ge, fun u2 h2 s2 => ⟨by simp (disch := first | omega | (simp only [e_ssz, e_psz, e_hszs, List.length_cons, List.length_nil]; try omega; done)) only [go_sem], ?_⟩⟩))))
    simp (disch := first | omega | (simp only [e_ssz, e_psz, e_hszs, List.length_cons, List.length_nil]; try omega; done)) only [↓reduceIte, go_sem]
    exact nil _ _ s2
  by_cases k2 : k = 2
  · subst k2
    simp (disch := first | omega | (simp only [e_ssz, e_psz, e_hszs, List.length_cons, List.length_nil]; try omega; done)) only [↓reduceIte, go_sem, lwPlayed_S, lwPlayed_E, ← hh1, B.at, B.2.1]
    refine effS_call (.inr (.inr (.inr (.inr (.inl ⟨rfl, s, a, b, rfl, hl, fun h2 x2 => ⟨by simp (disch := first | omega | (simp only [e_ssz, e_psz, e_hszs, List.length_cons, List.length_nil]; try omega; done)) only [go_sem], ?_⟩⟩)))))
    simp (disch := first | omega | (simp only [e_ssz, e_psz, e_hszs, List.length_cons, List.length_nil]; try omega; done)) only [↓reduceIte, go_sem]
    exact nil _ _ (Step.ofSame x2.1 x2.2.1)
  by_cases k3 : k = 3
  · subst k3
    simp (disch := first | omega | (simp only [e_ssz, e_psz, e_hszs, List.length_cons, List.length_nil]; try omega; done)) only [↓reduceIte, go_sem, lwPlayed_S, lwPlayed_E, ← hh1, B.at, B.2.1]
    refine effS_call (.inr (.inr (.inr (.inr (.inr ⟨rfl, s, a, rfl, hl, ⟨by simp (disch := first | omega | (simp only [e_ssz, e_psz, e_hszs, List.length_cons, List.length_nil]; try omega; done)) only [go_sem], ?_⟩⟩)))))
    simp (disch := first | omega | (simp only [e_ssz, e_psz, e_hszs, List.length_cons, List.length_nil]; try omega; done)) only [↓reduceIte, go_sem]
    exact nil _ _ (Step.refl _ _ _)
  simp (disch := first | omega | (simp only [e_ssz, e_psz, e_hszs, List.length_cons, List.length_nil]; try omega; done)) only [↓reduceIte, go_sem, lwPlayed_S, lwPlayed_E, ← hh1, B.at, B.2.1, k0, k1, k2, k3]
  exact nil _ _ (Step.refl _ _ _)
end Go.Proofs.YtbkpmdgeeolifaaDoor
