/- The laws' own, walked: eat, term, atom, literal, body of the token walk; refused. -/
import Derived.Test.YtmnfhmbmifompaaDoorPlI
import Derived.Test.YtmnfhmbmifompaaDoorPlG
import Derived.Test.YtmnfhmbmifompaaDoorPlW
namespace Go.Ev
open Go Rep Edict
theorem tok_at {u : U} {h : H} {pb po n c : Nat} {L : List Tok} (hs : IsSl u h (.slice (some ⟨pb, po, none⟩) n c) L) (i : Nat) {t : Tok} (ht : L[i]? = some t) :
    pb < h.size ∧ po + i * 6 + 6 ≤ hsz h pb ∧ hv h pb (po + i * 6) = .int .i64 t.1 ∧ hv h pb (po + i * 6 + 1) = str t.2.1 ∧ hv h pb (po + i * 6 + 2) = .int .i64 t.2.2.1 ∧ hv h pb (po + i * 6 + 3) = .int .i64 t.2.2.2.1 ∧ hv h pb (po + i * 6 + 4) = .int .i64 t.2.2.2.2.1 ∧ hv h pb (po + i * 6 + 5) = .int .i64 t.2.2.2.2.2 := by
  obtain ⟨pb', po', he, hpb, hpu, hpz, hpr⟩ := hs.row i t ht
  cases he
  rw [rep_tok] at hpr
  simp only [tokE, sz_tok, hvs_6, List.cons.injEq, and_true] at hpr hpu hpz
  obtain ⟨p0, p1, p2, p3, p4, p5⟩ := hpr
  exact ⟨hpb, hpz, p0, p1, p2, p3, p4, p5⟩
end Go.Ev
namespace Go.Proofs.YtmnfhmbmifompaaDoor
open Go Go.Ev Edict
/-- The walk's block, all being well so far. -/
def WkB (u : U) (h : H) (wb : Nat) (sl : Value) (L : List Tok) (i : Nat) : Prop := Blk u h wb [sl, .int .i64 i, .bool true] ∧ i ≤ L.length ∧ IsSl u h sl L ∧ L.length ≤ 65537
theorem WkB.step {S : Nat → Prop} {u u' : U} {h h' : H} {wb : Nat} {sl : Value} {L : List Tok} {i : Nat} (k : WkB u h wb sl L i) (s : Step S u h u' h') (hn : ¬ S wb) : WkB u' h' wb sl L i :=
  ⟨k.1.step s hn, k.2.1, k.2.2.1.mono s.ge, k.2.2.2⟩
theorem WkB.step0 {u u' : U} {h h' : H} {wb : Nat} {sl : Value} {L : List Tok} {i : Nat} (k : WkB u h wb sl L i) (s : Step S0 u h u' h') : WkB u' h' wb sl L i := k.step s (fun h => h)
theorem WkB.adv {u : U} {h : H} {wb : Nat} {sl : Value} {L : List Tok} {i : Nat} (k : WkB u h wb sl L i) (hi : i < L.length) :
    ∃ h', h' = hset h wb 1 (.int .i64 ((i : Int) + 1)) ∧ Step (fun b => b = wb) u h u h' ∧ WkB u h' wb sl L (i + 1) := by
  obtain ⟨hB, -, hL, hl⟩ := k
  have s := Step.set (S := fun b => b = wb) u h (b := wb) (o := 1) (.int .i64 ((i : Int) + 1)) rfl (by rw [hB.2.2.2.1]; exact Nat.zero_le _)
  exact ⟨_, rfl, s, hB.set (i := 1) (v := .int .i64 ((i : Int) + 1)) (by simp), hi, hL.mono s.ge, hl⟩
theorem WkB.good {u : U} {h : H} {wb : Nat} {sl : Value} {L : List Tok} {i : Nat} (k : WkB u h wb sl L i) :
    ∃ h', h' = hset h wb 2 (.bool true) ∧ Step (fun b => b = wb) u h u h' ∧ WkB u h' wb sl L i := by
  obtain ⟨hB, hi, hL, hl⟩ := k
  have s := Step.set (S := fun b => b = wb) u h (b := wb) (o := 2) (.bool true) rfl (by rw [hB.2.2.2.1]; exact Nat.zero_le _)
  exact ⟨_, rfl, s, hB.set (i := 2) (v := .bool true) (by simp), hi, hL.mono s.ge, hl⟩
def C_eat (vs : List Value) (h : H) (K : Value → H → Prop) : Prop := ∃ (u : U) (wb : Nat) (sl : Value) (L : List Tok) (i : Nat) (t : Tok) (r : List Tok), vs = [.pointer (some ⟨wb, 0, none⟩), .int .i64 (tK t)] ∧ WkB u h wb sl L i ∧ L.drop i = t :: r ∧
  ∀ u' h', Step (fun b => b = wb) u h u' h' → WkB u' h' wb sl L (i + 1) → K (.agg (tokE t).toArray) h'
theorem plEat_ok {vs : List Value} {h : H} {K : Value → H → Prop} {KP : List PanicEntry → H → Prop} (hC : C_eat vs h K) : HCX Tryd.prog 34 vs h K KP := by
  obtain ⟨u, wb, sl, L, i, t, r, rfl, hW, hd, hK⟩ := hC
  obtain ⟨hlt, hget, hd'⟩ := drop_cons hd
  refine plEat_H (fun _ _ _ _ _ => False) (fun _ _ _ _ _ h => h.elim) _ _ ?_
  have s1 := Step.push0 S0 u h #[.int .i64 0, str [], .int .i64 0, .int .i64 0, .int .i64 0, .int .i64 0] 75
  have B1 := Blk.new (u := u) (h := h) [.int .i64 0, str [], .int .i64 0, .int .i64 0, .int .i64 0, .int .i64 0] 75
  obtain ⟨h1, hh1⟩ : ∃ h1, h1 = h.push (.cells #[.int .i64 0, str [], .int .i64 0, .int .i64 0, .int .i64 0, .int .i64 0] 75) := ⟨_, rfl⟩
  obtain ⟨u1, hu1⟩ : ∃ u1, u1 = ub u h.size 0 := ⟨_, rfl⟩
  have B1' : Blk u1 h1 h.size [.int .i64 0, str [], .int .i64 0, .int .i64 0, .int .i64 0, .int .i64 0] := by rw [hu1, hh1]; exact B1
  rw [← hh1, ← hu1] at s1
  clear B1
  have hW1 := hW.step0 s1
  have hwb : wb < h.size := hW.1.1
  have hne1 : h.size ≠ wb := by omega
  obtain ⟨a, c, rfl, q1, q2⟩ := hW.2.2.1.sl
  have hLl := hW.2.2.2
  obtain ⟨pb, po, rfl, -, -, -, -⟩ := hW1.2.2.1.row i t hget
  obtain ⟨hpb, hpz, p0, p1, p2, p3, p4, p5⟩ := tok_at hW1.2.2.1 i hget
  obtain ⟨h2, hh2, s2, hW2⟩ := hW1.adv hlt
  obtain ⟨gpb, gpz, g0, g1, g2, g3, g4, g5⟩ := tok_at hW2.2.2.1 i hget
  have B12 := B1'.step s2 hne1
  have hB1 := hW1.1
  have hB2 := hW2.1
  have x1 := hB1.1
  have x2 := hB2.1
  have x3 := B12.1
  have hcast : ((i + 1 : Nat) : Int) = (i : Int) + 1 := by omega
  rw [hcast] at hB2
  have st2 : Step (fun b => b = wb) u h u1 h2 := (s1.mono (fun _ _ q => q.elim)).trans s2 (fun _ _ q => q)
  have w := B12.sets (l := tokE t) rfl
  have s3 := st2.setsR (b := h.size) (o := 0) (l := tokE t) (.inl (Nat.le_refl _)) (by rw [B12.2.2.2.1]; exact Nat.zero_le _) (by rw [B12.2.1]; exact Nat.le_refl _)
  have s23 := Step.sets (S := fun b => b = h.size) u1 h2 (b := h.size) (o := 0) (tokE t) rfl (by rw [B12.2.2.2.1]; exact Nat.zero_le _) (by rw [B12.2.1]; exact Nat.le_refl _)
  have hK' := hK _ _ s3 (hW2.step s23 (fun q => hne1 q.symm))
  simp only [tokE] at hK' w
  have hsub : (i : Int) + 1 - 1 = i := by omega
  simp (disch := first | omega | (simp only [e_ssz, e_psz, e_hszs, List.length_cons, List.length_nil]; try omega; done)) only [↓reduceIte, go_sem, plEat_S, plEat_E, ← hh1, hB1.at, hB1.2.1, hB1.2.2.1, eq_false (show ¬ ((L.length : Nat) : Int) ≤ (i : Nat) by omega), eq_true (show (i : Int) < (L.length : Nat) by omega), p0, tK, ← hh2, hB2.at, hB2.2.1, hsub, g0, g1, g2, g3, g4, g5, B12.2.1, B12.2.2.1, w.at, w.2.1]
  exact hK'
def C_wTerm (vs : List Value) (h : H) (K : Value → H → Prop) : Prop := ∃ (u : U) (wb : Nat) (sl : Value) (L : List Tok) (i : Nat) (t : Tok) (r : List Tok), vs = [.pointer (some ⟨wb, 0, none⟩), .agg (termE (termD t)).toArray] ∧ WkB u h wb sl L i ∧ L.drop i = t :: r ∧ isT (tK t) true = true ∧ WfT t ∧
  ∀ u' h' v, Step (fun b => b = wb) u h u' h' → WkB u' h' wb sl L (i + 1) → K v h'
def G_wTerm : Ctr := fun f vs h K _ => f = 34 ∧ C_eat vs h K
theorem G_wTerm_ok : GOk Tryd.prog G_wTerm := by
  rintro f vs h K KP ⟨rfl, hC⟩; exact plEat_ok hC
theorem plWTerm_ok {vs : List Value} {h : H} {K : Value → H → Prop} {KP : List PanicEntry → H → Prop} (hC : C_wTerm vs h K) : HCX Tryd.prog 72 vs h K KP := by
  obtain ⟨u, wb, sl, L, i, t, r, rfl, hW, hd, hT, hwf, hK⟩ := hC
  refine plWTerm_H G_wTerm G_wTerm_ok _ _ ?_
  have hwb : wb < h.size := hW.1.1
  have hne1 : h.size ≠ wb := by omega
  have ht : tK t = 3 ∨ tK t = 1 ∨ tK t = 4 ∨ tK t = 2 := by unfold isT at hT; simp at hT; omega
  rcases ht with hk | hk | hk | hk
  · skip
    have hD : termD t = (1, t.2.2.1, [], t.2.2.2.2.1) := by unfold termD; simp [hk, tI, tO]
    have hk' : t.1 = 3 := hk
    have hw : t.2.1 = [] := hwf.1 hk
    rw [hD]
    simp only [termE]
    have s1 := Step.push0 S0 u h #[.int .i64 1, .int .i64 t.2.2.1, str [], .int .i64 t.2.2.2.2.1] 87
    have B1 := Blk.new (u := u) (h := h) [.int .i64 1, .int .i64 t.2.2.1, str [], .int .i64 t.2.2.2.2.1] 87
    obtain ⟨h1, hh1⟩ : ∃ h1, h1 = h.push (.cells #[.int .i64 1, .int .i64 t.2.2.1, str [], .int .i64 t.2.2.2.2.1] 87) := ⟨_, rfl⟩
    obtain ⟨u1, hu1⟩ : ∃ u1, u1 = ub u h.size 0 := ⟨_, rfl⟩
    have B1' : Blk u1 h1 h.size [.int .i64 1, .int .i64 t.2.2.1, str [], .int .i64 t.2.2.2.2.1] := by rw [hu1, hh1]; exact B1
    rw [← hh1, ← hu1] at s1
    clear B1
    have B11 := B1'.1
    have hW1 := hW.step0 s1
    simp (disch := first | omega | (simp only [e_ssz, e_psz, e_hszs, List.length_cons, List.length_nil]; try omega; done)) only [↓reduceIte, go_sem, plWTerm_S, plWTerm_E, ← hh1, B1'.at, B1'.2.1]
    refine effS_call ⟨rfl, u1, wb, sl, L, i, t, r, by rw [hk], hW1, hd, fun u2 h2 s2 hW2 => ⟨by simp (disch := first | omega | (simp only [e_ssz, e_psz, e_hszs, List.length_cons, List.length_nil]; try omega; done)) only [go_sem], ?_⟩⟩
    have B12 := B1'.step s2 hne1
    have st2 : Step (fun b => b = wb) u h u2 h2 := (s1.mono (fun _ _ q => q.elim)).trans s2 (fun _ _ q => q)
    simp only [tokE]
    obtain ⟨h3, h4, u4, hh3, hh4, B3, B4, s4, hz4⟩ := boxed u2 h2 [.int .i64 0, str [], .int .i64 0, .int .i64 0, .int .i64 0, .int .i64 0] [.int .i64 t.1, str t.2.1, .int .i64 t.2.2.1, .int .i64 t.2.2.2.1, .int .i64 t.2.2.2.2.1, .int .i64 t.2.2.2.2.2] 75 rfl
    have B14 := B12.step0 s4
    have hW4 := hW2.step0 s4
    have st4 := st2.trans0 s4
    have B31 := B3.1
    have B41 := B4.1
    have B141 := B14.1
    have hB4 := hW4.1
    have hB41 := hB4.1
    obtain ⟨h5, hh5, s5, hW5⟩ := hW4.good
    have hK' := fun v => hK _ _ v (st4.trans s5 (fun _ _ q => q)) hW5
    rw [hw] at hh4 B4 ⊢
    simp (disch := first | omega | (simp only [e_ssz, e_psz, e_hszs, List.length_cons, List.length_nil]; try omega; done)) only [↓reduceIte, go_sem, ← hh3, ← hh4, B3.2.1, B3.2.2.1, B14.at, B14.2.1, hB4.at, hB4.2.1, hB4.2.2.1, B4.at, B4.2.1, ← hh5]
    exact hK' _
  · skip
    have hD : termD t = (2, 0, t.2.1, t.2.2.2.2.1) := by unfold termD; simp [hk, tX, tO]
    have hk' : t.1 = 1 := hk
    have hw : t.2.2.1 = 0 := hwf.2 (by rw [show t.1 = tK t from rfl, hk]; decide)
    rw [hD]
    simp only [termE]
    have s1 := Step.push0 S0 u h #[.int .i64 2, .int .i64 0, str t.2.1, .int .i64 t.2.2.2.2.1] 87
    have B1 := Blk.new (u := u) (h := h) [.int .i64 2, .int .i64 0, str t.2.1, .int .i64 t.2.2.2.2.1] 87
    obtain ⟨h1, hh1⟩ : ∃ h1, h1 = h.push (.cells #[.int .i64 2, .int .i64 0, str t.2.1, .int .i64 t.2.2.2.2.1] 87) := ⟨_, rfl⟩
    obtain ⟨u1, hu1⟩ : ∃ u1, u1 = ub u h.size 0 := ⟨_, rfl⟩
    have B1' : Blk u1 h1 h.size [.int .i64 2, .int .i64 0, str t.2.1, .int .i64 t.2.2.2.2.1] := by rw [hu1, hh1]; exact B1
    rw [← hh1, ← hu1] at s1
    clear B1
    have B11 := B1'.1
    have hW1 := hW.step0 s1
    simp (disch := first | omega | (simp only [e_ssz, e_psz, e_hszs, List.length_cons, List.length_nil]; try omega; done)) only [↓reduceIte, go_sem, plWTerm_S, plWTerm_E, ← hh1, B1'.at, B1'.2.1]
    refine effS_call ⟨rfl, u1, wb, sl, L, i, t, r, by rw [hk], hW1, hd, fun u2 h2 s2 hW2 => ⟨by simp (disch := first | omega | (simp only [e_ssz, e_psz, e_hszs, List.length_cons, List.length_nil]; try omega; done)) only [go_sem], ?_⟩⟩
    have B12 := B1'.step s2 hne1
    have st2 : Step (fun b => b = wb) u h u2 h2 := (s1.mono (fun _ _ q => q.elim)).trans s2 (fun _ _ q => q)
    simp only [tokE]
    obtain ⟨h3, h4, u4, hh3, hh4, B3, B4, s4, hz4⟩ := boxed u2 h2 [.int .i64 0, str [], .int .i64 0, .int .i64 0, .int .i64 0, .int .i64 0] [.int .i64 t.1, str t.2.1, .int .i64 t.2.2.1, .int .i64 t.2.2.2.1, .int .i64 t.2.2.2.2.1, .int .i64 t.2.2.2.2.2] 75 rfl
    have B14 := B12.step0 s4
    have hW4 := hW2.step0 s4
    have st4 := st2.trans0 s4
    have B31 := B3.1
    have B41 := B4.1
    have B141 := B14.1
    have hB4 := hW4.1
    have hB41 := hB4.1
    obtain ⟨h5, hh5, s5, hW5⟩ := hW4.good
    have hK' := fun v => hK _ _ v (st4.trans s5 (fun _ _ q => q)) hW5
    rw [hw] at hh4 B4 ⊢
    simp (disch := first | omega | (simp only [e_ssz, e_psz, e_hszs, List.length_cons, List.length_nil]; try omega; done)) only [↓reduceIte, go_sem, ← hh3, ← hh4, B3.2.1, B3.2.2.1, B14.at, B14.2.1, hB4.at, hB4.2.1, hB4.2.2.1, B4.at, B4.2.1, ← hh5]
    exact hK' _
  · skip
    have hD : termD t = (3, 0, t.2.1, t.2.2.2.2.1) := by unfold termD; simp [hk, tX, tO]
    have hk' : t.1 = 4 := hk
    have hw : t.2.2.1 = 0 := hwf.2 (by rw [show t.1 = tK t from rfl, hk]; decide)
    rw [hD]
    simp only [termE]
    have s1 := Step.push0 S0 u h #[.int .i64 3, .int .i64 0, str t.2.1, .int .i64 t.2.2.2.2.1] 87
    have B1 := Blk.new (u := u) (h := h) [.int .i64 3, .int .i64 0, str t.2.1, .int .i64 t.2.2.2.2.1] 87
    obtain ⟨h1, hh1⟩ : ∃ h1, h1 = h.push (.cells #[.int .i64 3, .int .i64 0, str t.2.1, .int .i64 t.2.2.2.2.1] 87) := ⟨_, rfl⟩
    obtain ⟨u1, hu1⟩ : ∃ u1, u1 = ub u h.size 0 := ⟨_, rfl⟩
    have B1' : Blk u1 h1 h.size [.int .i64 3, .int .i64 0, str t.2.1, .int .i64 t.2.2.2.2.1] := by rw [hu1, hh1]; exact B1
    rw [← hh1, ← hu1] at s1
    clear B1
    have B11 := B1'.1
    have hW1 := hW.step0 s1
    simp (disch := first | omega | (simp only [e_ssz, e_psz, e_hszs, List.length_cons, List.length_nil]; try omega; done)) only [↓reduceIte, go_sem, plWTerm_S, plWTerm_E, ← hh1, B1'.at, B1'.2.1]
    refine effS_call ⟨rfl, u1, wb, sl, L, i, t, r, by rw [hk], hW1, hd, fun u2 h2 s2 hW2 => ⟨by simp (disch := first | omega | (simp only [e_ssz, e_psz, e_hszs, List.length_cons, List.length_nil]; try omega; done)) only [go_sem], ?_⟩⟩
    have B12 := B1'.step s2 hne1
    have st2 : Step (fun b => b = wb) u h u2 h2 := (s1.mono (fun _ _ q => q.elim)).trans s2 (fun _ _ q => q)
    simp only [tokE]
    obtain ⟨h3, h4, u4, hh3, hh4, B3, B4, s4, hz4⟩ := boxed u2 h2 [.int .i64 0, str [], .int .i64 0, .int .i64 0, .int .i64 0, .int .i64 0] [.int .i64 t.1, str t.2.1, .int .i64 t.2.2.1, .int .i64 t.2.2.2.1, .int .i64 t.2.2.2.2.1, .int .i64 t.2.2.2.2.2] 75 rfl
    have B14 := B12.step0 s4
    have hW4 := hW2.step0 s4
    have st4 := st2.trans0 s4
    have B31 := B3.1
    have B41 := B4.1
    have B141 := B14.1
    have hB4 := hW4.1
    have hB41 := hB4.1
    obtain ⟨h5, hh5, s5, hW5⟩ := hW4.good
    have hK' := fun v => hK _ _ v (st4.trans s5 (fun _ _ q => q)) hW5
    rw [hw] at hh4 B4 ⊢
    simp (disch := first | omega | (simp only [e_ssz, e_psz, e_hszs, List.length_cons, List.length_nil]; try omega; done)) only [↓reduceIte, go_sem, ← hh3, ← hh4, B3.2.1, B3.2.2.1, B14.at, B14.2.1, hB4.at, hB4.2.1, hB4.2.2.1, B4.at, B4.2.1, ← hh5]
    exact hK' _
  · skip
    have hD : termD t = (4, 0, t.2.1, t.2.2.2.2.1) := by unfold termD; simp [hk, tX, tO]
    have hk' : t.1 = 2 := hk
    have hw : t.2.2.1 = 0 := hwf.2 (by rw [show t.1 = tK t from rfl, hk]; decide)
    rw [hD]
    simp only [termE]
    have s1 := Step.push0 S0 u h #[.int .i64 4, .int .i64 0, str t.2.1, .int .i64 t.2.2.2.2.1] 87
    have B1 := Blk.new (u := u) (h := h) [.int .i64 4, .int .i64 0, str t.2.1, .int .i64 t.2.2.2.2.1] 87
    obtain ⟨h1, hh1⟩ : ∃ h1, h1 = h.push (.cells #[.int .i64 4, .int .i64 0, str t.2.1, .int .i64 t.2.2.2.2.1] 87) := ⟨_, rfl⟩
    obtain ⟨u1, hu1⟩ : ∃ u1, u1 = ub u h.size 0 := ⟨_, rfl⟩
    have B1' : Blk u1 h1 h.size [.int .i64 4, .int .i64 0, str t.2.1, .int .i64 t.2.2.2.2.1] := by rw [hu1, hh1]; exact B1
    rw [← hh1, ← hu1] at s1
    clear B1
    have B11 := B1'.1
    have hW1 := hW.step0 s1
    simp (disch := first | omega | (simp only [e_ssz, e_psz, e_hszs, List.length_cons, List.length_nil]; try omega; done)) only [↓reduceIte, go_sem, plWTerm_S, plWTerm_E, ← hh1, B1'.at, B1'.2.1]
    refine effS_call ⟨rfl, u1, wb, sl, L, i, t, r, by rw [hk], hW1, hd, fun u2 h2 s2 hW2 => ⟨by simp (disch := first | omega | (simp only [e_ssz, e_psz, e_hszs, List.length_cons, List.length_nil]; try omega; done)) only [go_sem], ?_⟩⟩
    have B12 := B1'.step s2 hne1
    have st2 : Step (fun b => b = wb) u h u2 h2 := (s1.mono (fun _ _ q => q.elim)).trans s2 (fun _ _ q => q)
    simp only [tokE]
    obtain ⟨h3, h4, u4, hh3, hh4, B3, B4, s4, hz4⟩ := boxed u2 h2 [.int .i64 0, str [], .int .i64 0, .int .i64 0, .int .i64 0, .int .i64 0] [.int .i64 t.1, str t.2.1, .int .i64 t.2.2.1, .int .i64 t.2.2.2.1, .int .i64 t.2.2.2.2.1, .int .i64 t.2.2.2.2.2] 75 rfl
    have B14 := B12.step0 s4
    have hW4 := hW2.step0 s4
    have st4 := st2.trans0 s4
    have B31 := B3.1
    have B41 := B4.1
    have B141 := B14.1
    have hB4 := hW4.1
    have hB41 := hB4.1
    obtain ⟨h5, hh5, s5, hW5⟩ := hW4.good
    have hK' := fun v => hK _ _ v (st4.trans s5 (fun _ _ q => q)) hW5
    rw [hw] at hh4 B4 ⊢
    simp (disch := first | omega | (simp only [e_ssz, e_psz, e_hszs, List.length_cons, List.length_nil]; try omega; done)) only [↓reduceIte, go_sem, ← hh3, ← hh4, B3.2.1, B3.2.2.1, B14.at, B14.2.1, hB4.at, hB4.2.1, hB4.2.2.1, B4.at, B4.2.1, ← hh5]
    exact hK' _
end Go.Proofs.YtmnfhmbmifompaaDoor
