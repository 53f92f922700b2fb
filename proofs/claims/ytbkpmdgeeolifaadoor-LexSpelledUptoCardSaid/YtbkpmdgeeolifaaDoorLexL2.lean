/- The laws LexEach and LexStops. -/
import Derived.Test.YtbkpmdgeeolifaaDoorLexL
namespace Edict
theorem eachF_cut {go : Nat → Bool} {stop : Nat} (h1 : ∀ i, i < stop → go i = true) (h2 : go stop = false) (fl : Int × Nat) : ∀ (l : List Tok) (i : Nat), i ≤ stop → eachF go fl i l = if stop < i + l.length then (stop + 1, 0, 0) else (i + l.length, fl)
  | [], i, h => by unfold eachF; rw [if_neg (by simp only [List.length_nil]; omega)]; rfl
  | t :: r, i, h => by
    unfold eachF
    by_cases hi : i < stop
    · rw [if_pos (h1 i hi), eachF_cut h1 h2 fl r (i + 1) (by omega), List.length_cons]
      have e : i + 1 + r.length = i + (r.length + 1) := by omega
      rw [e]
    · obtain rfl : i = stop := by omega
      rw [if_neg (by rw [h2]; simp), List.length_cons, if_pos (by omega)]
end Edict
namespace Go.Proofs.YtbkpmdgeeolifaaDoor
open Go Go.Ev Edict
theorem dnat {a : Nat} {b : Int} : (decide ((a : Int) = b) = decide ((a : Int) = b)) := rfl
def C_LexEachY (vs : List Value) (h : H) (K : Value → H → Prop) : Prop := ∃ (u : U) (bx bn k : Nat) (v : Value) (l : List Tok) (t : Tok) (n : Int), vs = [.agg (tokE t).toArray, .pointer (some ⟨bx, 0, none⟩), .pointer (some ⟨bn, 0, none⟩)] ∧ Blk u h bx [v] ∧ Blk u h bn [.int .i64 n] ∧ bx ≠ bn ∧ Own k u h v l ∧ bx < k ∧ bn < k ∧ k ≤ h.size ∧ l.length ≤ 65537 ∧
  ∀ u' h' v', Step (fun b => b = bx ∨ OwnB v b) u h u' h' → Blk u' h' bx [v'] → Own k u' h' v' (l ++ [t]) → (∀ b, OwnB v' b → OwnB v b ∨ h.size ≤ b) → K (.bool (!decide ((l.length : Int) = n))) h'
theorem LexEachY_ok {vs : List Value} {h : H} {K : Value → H → Prop} {KP : List PanicEntry → H → Prop} (hC : C_LexEachY vs h K) : HCX Tryd.prog 17 vs h K KP := by
  obtain ⟨u, bx, bn, k, v, l, t, n, rfl, hB, hN, hne0, ho, hbk, hnk, hk, hl, hK⟩ := hC
  have hB1 := hB.1; have hN1 := hN.1
  obtain ⟨va, vc, rfl, hv1, hv2⟩ := ho.sl
  refine LexEachY_H (fun _ _ _ _ _ => False) (fun _ _ _ _ _ h => h.elim) _ _ _ ?_
  have sp := Step.push0 S0 u h (tokE t).toArray 30
  have B1 := hB.step0 sp
  have N1 := hN.step0 sp
  have o1 := ho.step0 sp
  simp only [tokE] at sp B1 N1 o1 ⊢
  simp (disch := first | omega | (simp only [e_ssz, e_psz, e_hszs, List.length_cons, List.length_nil]; try omega; done)) only [↓reduceIte, go_sem, LexEachY_S, LexEachY_E, hB.at, hB.2.1]
  refine effS_app1q (by simp only [e_psz]) o1 (x := t) (by rw [rep_tok]; rfl) rfl rfl (by simp only [e_psz]; omega) (by omega) fun a m c u2 h2 ho2 s2 hO => ?_
  have hne : ∀ b, OwnB (.slice va l.length vc) b → k ≤ b := fun b hb => ho.ge hb
  have B2 := B1.step s2 (fun hb => by have := hne _ hb; omega)
  have N2 := N1.step s2 (fun hb => by have := hne _ hb; omega)
  have B21 := B2.1; have N21 := N2.1
  obtain ⟨ma, mc, hme, -, -⟩ := ho2.sl
  simp only [Value.slice.injEq] at hme
  obtain ⟨rfl, rfl, rfl⟩ := hme
  refine ⟨by simp (disch := first | omega | (simp only [e_ssz, e_psz, e_hszs, List.length_cons, List.length_nil]; try omega; done)) only [go_sem], ?_⟩
  have ss := Step.set (S := fun b => b = bx) u2 h2 (o := 0) (.slice a (l ++ [t]).length c) (b := bx) rfl (by rw [B2.2.2.2.1]; exact Nat.zero_le _)
  have st : Step (fun b => b = bx ∨ OwnB (.slice va l.length vc) b) u h u2 (hset h2 bx 0 (.slice a (l ++ [t]).length c)) :=
    ((sp.mono (S' := fun b => b = bx ∨ OwnB (.slice va l.length vc) b) (fun _ _ h => h.elim)).trans s2 (fun b _ hb => .inr hb)).trans ss (fun b _ hb => .inl hb)
  have B3 := B2.set (i := 0) (v := .slice a (l ++ [t]).length c) (by simp)
  have N3 := N2.step ss (by omega)
  have hlen : (l ++ [t]).length = l.length + 1 := by simp
  simp only [hlen, List.set_cons_zero] at ss st B3 ho2 hO N3 ⊢
  have K' := hK _ _ _ st B3 (ho2.step ss (fun b hb he => by have := ho2.ge hb; omega)) (fun b hb => (hO b hb).imp id fun q => by simp at q; omega)
  have e1 : ((l.length + 1 : Nat) : Int) - 1 = (l.length : Int) := by omega
  have hneb : bn ≠ bx := Ne.symm hne0
  simp (disch := first | omega | (simp only [e_ssz, e_psz, e_hszs, List.length_cons, List.length_nil]; try omega; done)) only [↓reduceIte, go_sem, B2.2.1, B2.2.2.1, B3.at, B3.2.1, N3.at, N3.2.1, e1]
  exact K' 
def C_LexStopsY (vs : List Value) (h : H) (K : Value → H → Prop) : Prop := ∃ (u : U) (bx bn k : Nat) (v : Value) (l : List Tok) (t : Tok) (n : Int), vs = [.agg (tokE t).toArray, .pointer (some ⟨bx, 0, none⟩), .pointer (some ⟨bn, 0, none⟩)] ∧ Blk u h bx [v] ∧ Blk u h bn [.int .i64 n] ∧ bx ≠ bn ∧ Own k u h v l ∧ bx < k ∧ bn < k ∧ k ≤ h.size ∧ l.length ≤ 65537 ∧
  ∀ u' h' v', Step (fun b => b = bx ∨ OwnB v b) u h u' h' → Blk u' h' bx [v'] → Own k u' h' v' (l ++ [t]) → (∀ b, OwnB v' b → OwnB v b ∨ h.size ≤ b) → K (.bool (decide ((l.length : Int) + 1 ≤ n))) h'
theorem LexStopsY_ok {vs : List Value} {h : H} {K : Value → H → Prop} {KP : List PanicEntry → H → Prop} (hC : C_LexStopsY vs h K) : HCX Tryd.prog 26 vs h K KP := by
  obtain ⟨u, bx, bn, k, v, l, t, n, rfl, hB, hN, hne0, ho, hbk, hnk, hk, hl, hK⟩ := hC
  have hB1 := hB.1; have hN1 := hN.1
  obtain ⟨va, vc, rfl, hv1, hv2⟩ := ho.sl
  refine LexStopsY_H (fun _ _ _ _ _ => False) (fun _ _ _ _ _ h => h.elim) _ _ _ ?_
  have sp := Step.push0 S0 u h (tokE t).toArray 30
  have B1 := hB.step0 sp
  have N1 := hN.step0 sp
  have o1 := ho.step0 sp
  simp only [tokE] at sp B1 N1 o1 ⊢
  simp (disch := first | omega | (simp only [e_ssz, e_psz, e_hszs, List.length_cons, List.length_nil]; try omega; done)) only [↓reduceIte, go_sem, LexStopsY_S, LexStopsY_E, hB.at, hB.2.1]
  refine effS_app1q (by simp only [e_psz]) o1 (x := t) (by rw [rep_tok]; rfl) rfl rfl (by simp only [e_psz]; omega) (by omega) fun a m c u2 h2 ho2 s2 hO => ?_
  have hne : ∀ b, OwnB (.slice va l.length vc) b → k ≤ b := fun b hb => ho.ge hb
  have B2 := B1.step s2 (fun hb => by have := hne _ hb; omega)
  have N2 := N1.step s2 (fun hb => by have := hne _ hb; omega)
  have B21 := B2.1; have N21 := N2.1
  obtain ⟨ma, mc, hme, -, -⟩ := ho2.sl
  simp only [Value.slice.injEq] at hme
  obtain ⟨rfl, rfl, rfl⟩ := hme
  refine ⟨by simp (disch := first | omega | (simp only [e_ssz, e_psz, e_hszs, List.length_cons, List.length_nil]; try omega; done)) only [go_sem], ?_⟩
  have ss := Step.set (S := fun b => b = bx) u2 h2 (o := 0) (.slice a (l ++ [t]).length c) (b := bx) rfl (by rw [B2.2.2.2.1]; exact Nat.zero_le _)
  have st : Step (fun b => b = bx ∨ OwnB (.slice va l.length vc) b) u h u2 (hset h2 bx 0 (.slice a (l ++ [t]).length c)) :=
    ((sp.mono (S' := fun b => b = bx ∨ OwnB (.slice va l.length vc) b) (fun _ _ h => h.elim)).trans s2 (fun b _ hb => .inr hb)).trans ss (fun b _ hb => .inl hb)
  have B3 := B2.set (i := 0) (v := .slice a (l ++ [t]).length c) (by simp)
  have N3 := N2.step ss (by omega)
  have hlen : (l ++ [t]).length = l.length + 1 := by simp
  simp only [hlen, List.set_cons_zero] at ss st B3 ho2 hO N3 ⊢
  have K' := hK _ _ _ st B3 (ho2.step ss (fun b hb he => by have := ho2.ge hb; omega)) (fun b hb => (hO b hb).imp id fun q => by simp at q; omega)
  have e1 : ((l.length + 1 : Nat) : Int) = (l.length : Int) + 1 := by omega
  simp (disch := first | omega | (simp only [e_ssz, e_psz, e_hszs, List.length_cons, List.length_nil]; try omega; done)) only [↓reduceIte, go_sem, B2.2.1, B2.2.2.1, B3.at, B3.2.1, N3.at, N3.2.1, e1]
  exact K' 
theorem isSl_take {α : Type} [Rep α] {u : U} {h : H} {a : Option Addr} {n c : Nat} {l : List α} (hs : IsSl u h (.slice a n c) l) {k : Nat} (hk : k ≤ l.length) : IsSl u h (.slice a k c) (l.take k) := by
  obtain ⟨a', n', c', h1, h2, h3, h4, h5, h6⟩ := hs
  simp only [Value.slice.injEq] at h1
  obtain ⟨rfl, rfl, rfl⟩ := h1
  have hl : (l.take k).length = k := by rw [List.length_take]; omega
  refine ⟨a, k, c, rfl, hl.symm, by omega, h4, h5, fun hne => ?_⟩
  have hne' : l ≠ [] := fun e => hne (by rw [e]; simp)
  obtain ⟨b, o, e, hb, hu, hz, hr⟩ := h6 hne'
  have := Nat.mul_le_mul_right (Rep.sz α) hk
  refine ⟨b, o, e, hb, by rw [hl]; omega, by rw [hl]; omega, fun i x hx => hr i x ?_⟩
  rw [List.getElem?_take] at hx
  split at hx
  · exact hx
  · cases hx
def Y_each : Ctr := fun f vs h K _ => f = 17 ∧ C_LexEachY vs h K
theorem Y_each_ok : GOk Tryd.prog Y_each := by
  rintro f vs h K KP ⟨rfl, hC⟩; exact LexEachY_ok hC
def Y_stops : Ctr := fun f vs h K _ => f = 26 ∧ C_LexStopsY vs h K
theorem Y_stops_ok : GOk Tryd.prog Y_stops := by
  rintro f vs h K KP ⟨rfl, hC⟩; exact LexStopsY_ok hC
/-- What the takers of LexEach and LexStops hold behind i tokens. -/
def InvT (L : List Tok) (bx bn k : Nat) (n : Int) (i : Nat) (O : Nat → Prop) (u : U) (h : H) : Prop := ∃ v, O = (fun b => (b = bx ∨ b = bn) ∨ OwnB v b) ∧ Blk u h bx [v] ∧ Blk u h bn [.int .i64 n] ∧ Own k u h v (L.take i) ∧ k ≤ h.size
theorem InvT_lt {L : List Tok} {bx bn k : Nat} {n : Int} : ∀ i O u1 h1, InvT L bx bn k n i O u1 h1 → ∀ b, O b → b < h1.size := by
  rintro i O u1 h1 ⟨v, rfl, q1, q0, q2, q3⟩ b hb
  rcases hb with (rfl | rfl) | hb
  · exact q1.1
  · exact q0.1
  · exact q2.lt hb
theorem InvT_st {L : List Tok} {bx bn k : Nat} {n : Int} : ∀ i O T u1 h1 u2 h2, InvT L bx bn k n i O u1 h1 → Step T u1 h1 u2 h2 → (∀ b, O b → ¬ T b) → InvT L bx bn k n i O u2 h2 := by
  rintro i O T u1 h1 u4 h4 ⟨v, rfl, q1, q0, q2, q3⟩ st hT
  exact ⟨v, rfl, q1.step st (hT _ (.inl (.inl rfl))), q0.step st (hT _ (.inl (.inr rfl))), q2.step st (fun b hb => hT b (.inr hb)), Nat.le_trans q3 st.ge.sz⟩
theorem InvT_0 {L : List Tok} {bx bn k : Nat} {n : Int} {u : U} {h : H} (X : Blk u h bx [.slice none 0 0]) (N : Blk u h bn [.int .i64 n]) (hk : k ≤ h.size) : InvT L bx bn k n 0 (fun b => b = bx ∨ b = bn) u h := by
  refine ⟨.slice none 0 0, ?_, X, N, .nil _ _ _, hk⟩
  funext b
  apply propext
  refine ⟨.inl, fun q => ?_⟩
  rcases q with q | ⟨o, n, c, q⟩
  · exact q
  · cases q
theorem InvT_on {L : List Tok} {bx bn k i : Nat} {n : Int} {u1 u4 : U} {h1 h4 : H} {v v4 : Value} {t : Tok} (hne : bx ≠ bn) (hbk : bn < k) (hti : L[i]? = some t) (q0 : Blk u1 h1 bn [.int .i64 n]) (q2 : Own k u1 h1 v (L.take i)) (q3 : k ≤ h1.size)
    (s4 : Step (fun b => b = bx ∨ OwnB v b) u1 h1 u4 h4) (b4 : Blk u4 h4 bx [v4]) (o4 : Own k u4 h4 v4 (L.take i ++ [t])) (hO4 : ∀ b, OwnB v4 b → OwnB v b ∨ h1.size ≤ b) :
    Step (fun b => (b = bx ∨ b = bn) ∨ OwnB v b) u1 h1 u4 h4 ∧ InvT L bx bn k n (i + 1) (fun b => (b = bx ∨ b = bn) ∨ OwnB v4 b) u4 h4 ∧ ∀ b, (b = bx ∨ b = bn) ∨ OwnB v4 b → ((b = bx ∨ b = bn) ∨ OwnB v b) ∨ h1.size ≤ b := by
  refine ⟨s4.mono (fun b _ hb => hb.elim (fun e => .inl (.inl e)) .inr), ⟨v4, rfl, b4, q0.step s4 (fun hb => ?_), by rw [List.take_add_one, hti]; exact o4, Nat.le_trans q3 s4.ge.sz⟩, fun b hb => ?_⟩
  · rcases hb with hb | hb
    · exact hne hb.symm
    · have := q2.ge hb; omega
  · rcases hb with hb | hb
    · exact .inl (.inl hb)
    · exact (hO4 b hb).imp .inr id
theorem each_n {go : Nat → Bool} {n : Int} {L : List Tok} {fl : Int × Nat} {stop : Nat} (hgo : ∀ i, i < stop → go i = true) (hst : 0 ≤ n → stop = n.toNat ∧ go stop = false) (hneg : n < 0 → ∀ i, go i = true) {m : Nat} {c : Int} {o : Nat} (he : eachF go fl 0 L = (m, c, o)) :
    (0 ≤ n ∧ n.toNat < L.length → m = n.toNat + 1 ∧ c = 0 ∧ o = 0) ∧ (¬ (0 ≤ n ∧ n.toNat < L.length) → m = L.length ∧ c = fl.1 ∧ o = fl.2) := by
  by_cases hn : 0 ≤ n
  · obtain ⟨h1, h2⟩ := hst hn
    subst h1
    rw [eachF_cut hgo h2 fl L 0 (Nat.zero_le _), Nat.zero_add] at he
    by_cases q : n.toNat < L.length
    · rw [if_pos q] at he
      cases he
      exact ⟨fun _ => ⟨rfl, rfl, rfl⟩, fun h => absurd ⟨hn, q⟩ h⟩
    · rw [if_neg q] at he
      cases he
      exact ⟨fun h => absurd h.2 q, fun _ => ⟨rfl, rfl, rfl⟩⟩
  · rw [eachF_all (hneg (by omega)), Nat.zero_add] at he
    cases he
    exact ⟨fun h => absurd h.1 hn, fun _ => ⟨rfl, rfl, rfl⟩⟩
def C_law2 (vs : List Value) (h : H) (K : Value → H → Prop) : Prop := ∃ (u : U) (s : List UInt8) (n : Int), vs = [str s, .int .i64 n] ∧ s.length ≤ 9223372036854775807 ∧ (-9223372036854775808 ≤ n ∧ n ≤ 9223372036854775807) ∧ LxG u h ∧ ∀ u' h', Step S0 u h u' h' → K (.bool true) h'
def G_LexEach : Ctr := fun f vs h K _ => (f = 15 ∧ C_rscan vs h K) ∨ (f = 16 ∧ C_each Y_each vs h K) ∨ (f = 18 ∧ C_same vs h K)
theorem G_LexEach_ok : GOk Tryd.prog G_LexEach := by
  rintro f vs h K KP (⟨rfl, hC⟩ | ⟨rfl, hC⟩ | ⟨rfl, hC⟩)
  · exact rfScan_ok hC
  · exact lxEach_ok Y_each_ok hC
  · exact lwSame_ok hC
theorem LexEach_ok {vs : List Value} {h : H} {K : Value → H → Prop} {KP : List PanicEntry → H → Prop} (hC : C_law2 vs h K) : HCX Tryd.prog 3 vs h K KP := by
  obtain ⟨u, s, n, rfl, hl, ⟨hn1, hn2⟩, hG, hK⟩ := hC
  have hlen := scanF_len s
  refine LexEach_H G_LexEach G_LexEach_ok _ _ ?_
  have N1 := Blk.new (u := u) (h := h) [.int .i64 n] 3
  have st1 := Step.push0 S0 u h #[.int .i64 n] 3
  simp (disch := first | omega | (simp only [e_ssz, e_psz, e_hszs, List.length_cons, List.length_nil]; try omega; done)) only [↓reduceIte, go_sem, LexEach_S, LexEach_E]
  refine effS_call (.inl ⟨rfl, ub u h.size 0, s, rfl, hl, fun u2 h2 w s2 o2 => ⟨by simp (disch := first | omega | (simp only [e_ssz, e_psz, e_hszs, List.length_cons, List.length_nil]; try omega; done)) only [go_sem], ?_⟩⟩)
  obtain ⟨c, hc⟩ : ∃ c, c = (scanF s).2.1 := ⟨_, rfl⟩
  obtain ⟨p, hp⟩ : ∃ p, p = (scanF s).2.2 := ⟨_, rfl⟩
  obtain ⟨L, hL⟩ : ∃ L, L = (scanF s).1 := ⟨_, rfl⟩
  rw [← hL] at o2 hlen
  obtain ⟨wa, wc, rfl, q1, q2⟩ := o2.sl
  rw [← hc, ← hp]
  have N2 := N1.step0 s2
  have st2 := st1.trans0 s2
  have A2 := Blk.new (u := u2) (h := h2) (fltE c p) 25
  have A3 := A2.pushR (c := #[.slice none 0 0]) (t := 22)
  have s3 := ((Step.refl S0 u2 h2).pushR (c := (fltE c p).toArray) (t := 25)).pushR (c := #[.slice none 0 0]) (t := 22)
  have X3 := Blk.new (u := ub u2 h2.size 0) (h := h2.push (.cells (fltE c p).toArray 25)) [.slice none 0 0] 22
  have N3 := N2.step0 s3
  have st3 := st2.trans0 s3
  have o3 := o2.step0 s3
  simp only [e_psz, fltE] at A3 X3 N3 s3 st3 o3
  simp only [fltE]
  simp (disch := first | omega | (simp only [e_ssz, e_psz, e_hszs, List.length_cons, List.length_nil]; try omega; done)) only [↓reduceIte, go_sem, e_mkf]
  obtain ⟨h3, hh3⟩ : ∃ h3, h3 = (h2.push (.cells #[.int .i64 c, .int .i64 0, .int .i64 (p : Int)] 25)).push (.cells #[.slice none 0 0] 22) := ⟨_, rfl⟩
  obtain ⟨u3, hu3⟩ : ∃ u3, u3 = ub (ub u2 h2.size 0) (h2.size + 1) 0 := ⟨_, rfl⟩
  rw [← hh3, ← hu3] at A3 X3 N3 s3 st3 o3
  rw [← hh3]
  have hs3 : h3.size = h2.size + 2 := by rw [hh3]; simp
  clear hh3 hu3 A2 N2 N1
  have hN21 : h.size < h2.size := by have := s2.ge.sz; simp at this; omega
  refine effS_call (.inr (.inl ⟨rfl, u3, s, _, fun i => !decide ((i : Int) = n), fun b => b = h2.size + 1 ∨ b = h.size, InvT L (h2.size + 1) h.size (h2.size + 2) n, rfl, hl, hG.mono st3.ge, InvT_0 X3 N3 (by omega), InvT_lt, InvT_st, ?_, ?_⟩))
  · refine .inr ⟨17, [.pointer (some ⟨h2.size + 1, 0, none⟩), .pointer (some ⟨h.size, 0, none⟩)], rfl, ?_⟩
    rintro i t O u1 h1 Q QP hti ⟨v, rfl, q1, q0, q2, q3⟩ - hQ
    rw [← hL] at hti
    have hi := (List.getElem?_eq_some_iff.1 hti).1
    have hli : (L.take i).length = i := by rw [List.length_take]; omega
    refine ⟨rfl, u1, h2.size + 1, h.size, h2.size + 2, v, _, t, n, rfl, q1, q0, by omega, q2, by omega, by omega, q3, by omega, fun u4 h4 v4 s4 b4 o4 hO4 => ?_⟩
    rw [hli]
    obtain ⟨w1, w2, w3⟩ := InvT_on (by omega) (by omega) hti q0 q2 q3 s4 b4 o4 hO4
    exact hQ _ u4 h4 w1 w2 w3
  · rintro u4 h4 O m c' o' s4 ⟨v, rfl, q1, q0, q2, q3⟩ hO he
    rw [← hL] at he
    obtain ⟨hA, hB⟩ := each_n (n := n) (stop := n.toNat) (fun i hi => by simp; omega) (fun hn => ⟨rfl, by simp; omega⟩) (fun hn i => by simp; omega) he
    rw [← hc, ← hp] at hB
    have hO3 : ∀ b, OwnB (.slice wa L.length wc) b → h.size + 1 ≤ b ∧ b < h2.size := fun b hb => ⟨by have := o2.ge hb; simp at this; omega, o2.lt hb⟩
    have i4 := (o3.step s4 (fun b hb hq => by have := hO3 b hb; omega)).isSl
    have A4 := A3.step s4 (by omega)
    have st4 := st3.trans s4 (fun b hb hq => by omega)
    obtain ⟨va, vc, rfl, -, -⟩ := q2.sl
    have A41 := A4.1; have q11 := q1.1; have q01 := q0.1
    refine ⟨by simp (disch := first | omega | (simp only [e_ssz, e_psz, e_hszs, List.length_cons, List.length_nil]; try omega; done)) only [go_sem], ?_⟩
    have s5 := Step.push0 S0 u4 h4 (fltE c' o').toArray 25
    have i5 := i4.mono s5.ge
    have g5 := q2.isSl.mono s5.ge
    simp only [fltE] at s5 i5 g5 ⊢
    by_cases hcase : 0 ≤ n ∧ n.toNat < L.length
    · obtain ⟨rfl, rfl, rfl⟩ := hA hcase
      have en : (n + 1).toNat = n.toNat + 1 := by omega
      have i6 := isSl_take i5 (k := n.toNat + 1) (by omega)
      simp (disch := first | omega | (simp only [e_ssz, e_psz, e_hszs, List.length_cons, List.length_nil]; try omega; done)) only [↓reduceIte, go_sem, q0.at, q0.2.1, q1.at, q1.2.1, eq_true hcase.1, eq_true (show n < (L.length : Nat) by omega), en, eq_true (show (0 : Int) ≤ n + 1 by omega), eq_true (show n + 1 ≤ (wc : Int) by omega)]
      refine effS_call (.inr (.inr ⟨rfl, _, _, _, _, _, rfl, g5, i6, ⟨by simp (disch := first | omega | (simp only [e_ssz, e_psz, e_hszs, List.length_cons, List.length_nil]; try omega; done)) only [go_sem], ?_⟩⟩))
      simp (disch := first | omega | (simp only [e_ssz, e_psz, e_hszs, List.length_cons, List.length_nil]; try omega; done)) only [↓reduceIte, go_sem]
      exact hK _ _ (st4.trans0 s5)
    · obtain ⟨rfl, rfl, rfl⟩ := hB hcase
      have i6 := i5
      simp only [List.take_length] at g5 q1 ⊢
      by_cases hn0 : 0 ≤ n
      · have hnl : ¬ n < (L.length : Nat) := by omega
        simp (disch := first | omega | (simp only [e_ssz, e_psz, e_hszs, List.length_cons, List.length_nil]; try omega; done)) only [↓reduceIte, go_sem, q0.at, q0.2.1, q1.at, q1.2.1, A4.at, A4.2.1, eq_true hn0, eq_false hnl]
        refine effS_call (.inr (.inr ⟨rfl, _, _, _, _, _, rfl, g5, i6, ⟨by simp (disch := first | omega | (simp only [e_ssz, e_psz, e_hszs, List.length_cons, List.length_nil]; try omega; done)) only [go_sem], ?_⟩⟩))
        simp (disch := first | omega | (simp only [e_ssz, e_psz, e_hszs, List.length_cons, List.length_nil]; try omega; done)) only [↓reduceIte, go_sem]
        exact hK _ _ (st4.trans0 s5)
      · simp (disch := first | omega | (simp only [e_ssz, e_psz, e_hszs, List.length_cons, List.length_nil]; try omega; done)) only [↓reduceIte, go_sem, q0.at, q0.2.1, q1.at, q1.2.1, A4.at, A4.2.1, eq_false hn0]
        refine effS_call (.inr (.inr ⟨rfl, _, _, _, _, _, rfl, g5, i6, ⟨by simp (disch := first | omega | (simp only [e_ssz, e_psz, e_hszs, List.length_cons, List.length_nil]; try omega; done)) only [go_sem], ?_⟩⟩))
        simp (disch := first | omega | (simp only [e_ssz, e_psz, e_hszs, List.length_cons, List.length_nil]; try omega; done)) only [↓reduceIte, go_sem]
        exact hK _ _ (st4.trans0 s5)
theorem LexEach_hc {s : List UInt8} {n : Int} {h : H} (hl : s.length ≤ 9223372036854775807) (hn : -9223372036854775808 ≤ n ∧ n ≤ 9223372036854775807) (hG : LxG (hsz h) h) : HCX Tryd.prog 3 [str s, .int .i64 n] h (fun v h' => v = .bool true ∧ Ext0 h h') fun _ _ => False :=
  LexEach_ok ⟨hsz h, s, n, rfl, hl, hn, hG, fun u' h' st => ⟨rfl, st.ext⟩⟩
end Go.Proofs.YtbkpmdgeeolifaaDoor
