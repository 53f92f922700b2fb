/- ParseOwn: the book is filled: mark, addArgs, addBody. -/
import Derived.Test.YtlenjlidahnklaaDoorPwG
namespace Edict
open Go.Ev HasTags
structure BkM where
  a : List (SlG TermT)
  l : List (SlG LitG)
  c : List (SlG ClauseG)
  t : List (SlG AtomG)
  k : List (SlG ConstT)
def otags {α : Type} (L : List (SlG α)) : List Nat := L.flatMap fun g => g.t.toList
def BkM.cnt (n : Nat) (m : BkM) : Nat := (otags m.a).count n + (otags m.l).count n + (otags m.c).count n + (otags m.t).count n + (otags m.k).count n
def BkM.len (m : BkM) : Nat := m.a.length + m.l.length + m.c.length + m.t.length + m.k.length
/-- What was added: at most these blocks, at most w lists. -/
def Ad (m m' : BkM) (T : List Nat) (w : Nat) : Prop := (∀ n, m'.cnt n ≤ m.cnt n + T.count n) ∧ m'.len ≤ m.len + w
theorem Ad.refl (m : BkM) (T : List Nat) (w : Nat) : Ad m m T w := ⟨fun _ => Nat.le_add_right _ _, Nat.le_add_right _ _⟩
theorem Ad.trans {m m1 m2 : BkM} {T1 T2 : List Nat} {w1 w2 : Nat} (a : Ad m m1 T1 w1) (b : Ad m1 m2 T2 w2) : Ad m m2 (T1 ++ T2) (w1 + w2) := by
  refine ⟨fun n => ?_, ?_⟩
  · rw [List.count_append]; have := a.1 n; have := b.1 n; omega
  · have := a.2; have := b.2; omega
theorem Ad.le {m m' : BkM} {T T' : List Nat} {w w' : Nat} (a : Ad m m' T w) (hT : ∀ n, T.count n ≤ T'.count n) (hw : w ≤ w') : Ad m m' T' w' := ⟨fun n => by have := a.1 n; have := hT n; omega, by have := a.2; omega⟩
theorem otags_snoc {α : Type} (L : List (SlG α)) (g : SlG α) (n : Nat) : (otags (L ++ [g])).count n = (otags L).count n + g.t.toList.count n := by unfold otags; rw [List.flatMap_append, List.count_append]; simp
theorem Ad.put0 (m : BkM) (g : SlG TermT) : Ad m { m with a := m.a ++ [g] } g.t.toList 1 := by
  refine ⟨fun n => ?_, ?_⟩
  · unfold BkM.cnt; simp only; rw [otags_snoc]; omega
  · unfold BkM.len; simp only; rw [List.length_append, List.length_singleton]; omega
theorem Ad.put2 (m : BkM) (g : SlG LitG) : Ad m { m with l := m.l ++ [g] } g.t.toList 1 := by
  refine ⟨fun n => ?_, ?_⟩
  · unfold BkM.cnt; simp only; rw [otags_snoc]; omega
  · unfold BkM.len; simp only; rw [List.length_append, List.length_singleton]; omega
theorem Ad.put4 (m : BkM) (g : SlG ClauseG) : Ad m { m with c := m.c ++ [g] } g.t.toList 1 := by
  refine ⟨fun n => ?_, ?_⟩
  · unfold BkM.cnt; simp only; rw [otags_snoc]; omega
  · unfold BkM.len; simp only; rw [List.length_append, List.length_singleton]; omega
theorem Ad.put6 (m : BkM) (g : SlG AtomG) : Ad m { m with t := m.t ++ [g] } g.t.toList 1 := by
  refine ⟨fun n => ?_, ?_⟩
  · unfold BkM.cnt; simp only; rw [otags_snoc]; omega
  · unfold BkM.len; simp only; rw [List.length_append, List.length_singleton]; omega
theorem Ad.put8 (m : BkM) (g : SlG ConstT) : Ad m { m with k := m.k ++ [g] } g.t.toList 1 := by
  refine ⟨fun n => ?_, ?_⟩
  · unfold BkM.cnt; simp only; rw [otags_snoc]; omega
  · unfold BkM.len; simp only; rw [List.length_append, List.length_singleton]; omega
end Edict
namespace Go.Ev
open Go Rep Edict HasTags
def bkE (v0 v2 v4 v6 v8 : Value) : List Value := [v0, .slice none 0 0, v2, .slice none 0 0, v4, .slice none 0 0, v6, .slice none 0 0, v8, .slice none 0 0]
theorem vtag_le (v : Value) (n : Nat) : (vtag v).count n ≤ 1 := by
  unfold vtag
  split
  · rw [List.count_singleton]; split <;> omega
  · simp
/-- The book, in block bb. -/
structure BkS (bb : Nat) (u : U) (h : H) (m : BkM) (v0 v2 v4 v6 v8 : Value) : Prop where
  B : Blk u h bb (bkE v0 v2 v4 v6 v8)
  o0 : Own (bb + 1) u h v0 m.a
  o2 : Own (bb + 1) u h v2 m.l
  o4 : Own (bb + 1) u h v4 m.c
  o6 : Own (bb + 1) u h v6 m.t
  o8 : Own (bb + 1) u h v8 m.k
  d : ∀ n, (vtag v0).count n + (vtag v2).count n + (vtag v4).count n + (vtag v6).count n + (vtag v8).count n ≤ 1
/-- The book's blocks. -/
def BkB (bb : Nat) (v0 v2 v4 v6 v8 : Value) (j : Nat) : Prop := j = bb ∨ OwnB v0 j ∨ OwnB v2 j ∨ OwnB v4 j ∨ OwnB v6 j ∨ OwnB v8 j
def Nx (bb : Nat) (v0 v2 v4 v6 v8 : Value) (h : H) (w0 w2 w4 w6 w8 : Value) : Prop := ∀ j, BkB bb w0 w2 w4 w6 w8 j → BkB bb v0 v2 v4 v6 v8 j ∨ h.size ≤ j
theorem Nx.refl (bb : Nat) (v0 v2 v4 v6 v8 : Value) (h : H) : Nx bb v0 v2 v4 v6 v8 h v0 v2 v4 v6 v8 := fun _ q => .inl q
theorem Nx.trans {bb : Nat} {v0 v2 v4 v6 v8 w0 w2 w4 w6 w8 x0 x2 x4 x6 x8 : Value} {h h1 : H} (a : Nx bb v0 v2 v4 v6 v8 h w0 w2 w4 w6 w8) (b : Nx bb w0 w2 w4 w6 w8 h1 x0 x2 x4 x6 x8) (hs : h.size ≤ h1.size) : Nx bb v0 v2 v4 v6 v8 h x0 x2 x4 x6 x8 := fun j q => (b j q).elim (a j) (fun q => .inr (Nat.le_trans hs q))
theorem Nx.step {bb : Nat} {v0 v2 v4 v6 v8 w0 w2 w4 w6 w8 : Value} {u u1 u2 : U} {h h1 h2 : H} (a : Step (BkB bb v0 v2 v4 v6 v8) u h u1 h1) (n : Nx bb v0 v2 v4 v6 v8 h w0 w2 w4 w6 w8) (b : Step (BkB bb w0 w2 w4 w6 w8) u1 h1 u2 h2) : Step (BkB bb v0 v2 v4 v6 v8) u h u2 h2 := a.trans b (fun j hj q => (n j q).elim id (fun q => by omega))
theorem BkS.own {bb : Nat} {u : U} {h : H} {m : BkM} {v0 v2 v4 v6 v8 : Value} (b : BkS bb u h m v0 v2 v4 v6 v8) {j : Nat} (q : BkB bb v0 v2 v4 v6 v8 j) : bb ≤ j ∧ j < h.size := by
  rcases q with rfl | q | q | q | q | q
  · exact ⟨Nat.le_refl _, b.B.1⟩
  · exact ⟨by have := b.o0.ge q; omega, b.o0.lt q⟩
  · exact ⟨by have := b.o2.ge q; omega, b.o2.lt q⟩
  · exact ⟨by have := b.o4.ge q; omega, b.o4.lt q⟩
  · exact ⟨by have := b.o6.ge q; omega, b.o6.lt q⟩
  · exact ⟨by have := b.o8.ge q; omega, b.o8.lt q⟩
theorem BkS.step {bb : Nat} {S : Nat → Prop} {u u' : U} {h h' : H} {m : BkM} {v0 v2 v4 v6 v8 : Value} (b : BkS bb u h m v0 v2 v4 v6 v8) (s : Step S u h u' h') (hn : ∀ j, bb ≤ j → ¬ S j) : BkS bb u' h' m v0 v2 v4 v6 v8 :=
  ⟨b.B.step s (hn bb (Nat.le_refl _)), b.o0.step s (fun j q => hn j (by have := b.o0.ge q; omega)), b.o2.step s (fun j q => hn j (by have := b.o2.ge q; omega)), b.o4.step s (fun j q => hn j (by have := b.o4.ge q; omega)), b.o6.step s (fun j q => hn j (by have := b.o6.ge q; omega)), b.o8.step s (fun j q => hn j (by have := b.o8.ge q; omega)), b.d⟩
theorem BkS.step0 {bb : Nat} {u u' : U} {h h' : H} {m : BkM} {v0 v2 v4 v6 v8 : Value} (b : BkS bb u h m v0 v2 v4 v6 v8) (s : Step S0 u h u' h') : BkS bb u' h' m v0 v2 v4 v6 v8 := b.step s (fun _ _ q => q)
theorem BkS.put0 {bb : Nat} {u u' : U} {h h' : H} {m : BkM} {v0 v2 v4 v6 v8 w : Value} {g : SlG TermT} (b : BkS bb u h m v0 v2 v4 v6 v8) (s : Step (OwnB v0) u h u' h') (o : Own (bb + 1) u' h' w (m.a ++ [g])) (hb : ∀ j, OwnB w j → OwnB v0 j ∨ h.size ≤ j) :
    BkS bb u' (hset h' bb 0 w) { m with a := m.a ++ [g] } w v2 v4 v6 v8 ∧ Step (BkB bb v0 v2 v4 v6 v8) u h u' (hset h' bb 0 w) ∧ Nx bb v0 v2 v4 v6 v8 h w v2 v4 v6 v8 := by
  have B1 := b.B.step s (fun q => by have := b.o0.ge q; omega)
  have sw := Step.set (S := fun j => j = bb) u' h' (b := bb) (o := 0) w rfl (by rw [B1.2.2.2.1]; exact Nat.zero_le _)
  have B2 := B1.set (i := 0) (v := w) (by simp [bkE])
  refine ⟨⟨?_, (o.step sw (fun j q e => by have := o.ge q; have e : j = bb := e; omega)), ((b.o2.step s (fun j q q2 => by have := vtag_own.2 q; have := vtag_own.2 q2; have := b.d j; omega)).step sw (fun j q e => by have := b.o2.ge q; have e : j = bb := e; omega)), ((b.o4.step s (fun j q q2 => by have := vtag_own.2 q; have := vtag_own.2 q2; have := b.d j; omega)).step sw (fun j q e => by have := b.o4.ge q; have e : j = bb := e; omega)), ((b.o6.step s (fun j q q2 => by have := vtag_own.2 q; have := vtag_own.2 q2; have := b.d j; omega)).step sw (fun j q e => by have := b.o6.ge q; have e : j = bb := e; omega)), ((b.o8.step s (fun j q q2 => by have := vtag_own.2 q; have := vtag_own.2 q2; have := b.d j; omega)).step sw (fun j q e => by have := b.o8.ge q; have e : j = bb := e; omega)), fun n => ?_⟩, (s.mono (fun j _ q => .inr (.inl q))).trans sw (fun j _ e => .inl e), fun j q => (by
    rcases q with q | q | q | q | q | q
    · exact .inl (.inl q)
    · exact (hb j q).imp (fun q => .inr (.inl q)) id
    · exact .inl (.inr (.inr (.inl q)))
    · exact .inl (.inr (.inr (.inr (.inl q))))
    · exact .inl (.inr (.inr (.inr (.inr (.inl q)))))
    · exact .inl (.inr (.inr (.inr (.inr (.inr (q))))))
    )⟩
  · have e : (bkE v0 v2 v4 v6 v8).set 0 w = bkE w v2 v4 v6 v8 := rfl
    rw [← e]; exact B2
  · have d := b.d n
    have l1 := vtag_le w n
    by_cases q : 0 < (vtag w).count n
    · rcases hb n (vtag_own.1 q) with q2 | q2
      · have := vtag_own.2 q2; omega
      · have hl : ∀ x : Value, (∀ j, OwnB x j → j < h.size) → (vtag x).count n = 0 := fun x hx => by
          apply Decidable.byContradiction; intro hne
          have := hx n (vtag_own.1 (by omega)); omega
        have := hl v2 (fun j q => b.o2.lt q)
        have := hl v4 (fun j q => b.o4.lt q)
        have := hl v6 (fun j q => b.o6.lt q)
        have := hl v8 (fun j q => b.o8.lt q)
        omega
    · omega
theorem BkS.put2 {bb : Nat} {u u' : U} {h h' : H} {m : BkM} {v0 v2 v4 v6 v8 w : Value} {g : SlG LitG} (b : BkS bb u h m v0 v2 v4 v6 v8) (s : Step (OwnB v2) u h u' h') (o : Own (bb + 1) u' h' w (m.l ++ [g])) (hb : ∀ j, OwnB w j → OwnB v2 j ∨ h.size ≤ j) :
    BkS bb u' (hset h' bb 2 w) { m with l := m.l ++ [g] } v0 w v4 v6 v8 ∧ Step (BkB bb v0 v2 v4 v6 v8) u h u' (hset h' bb 2 w) ∧ Nx bb v0 v2 v4 v6 v8 h v0 w v4 v6 v8 := by
  have B1 := b.B.step s (fun q => by have := b.o2.ge q; omega)
  have sw := Step.set (S := fun j => j = bb) u' h' (b := bb) (o := 2) w rfl (by rw [B1.2.2.2.1]; exact Nat.zero_le _)
  have B2 := B1.set (i := 2) (v := w) (by simp [bkE])
  refine ⟨⟨?_, ((b.o0.step s (fun j q q2 => by have := vtag_own.2 q; have := vtag_own.2 q2; have := b.d j; omega)).step sw (fun j q e => by have := b.o0.ge q; have e : j = bb := e; omega)), (o.step sw (fun j q e => by have := o.ge q; have e : j = bb := e; omega)), ((b.o4.step s (fun j q q2 => by have := vtag_own.2 q; have := vtag_own.2 q2; have := b.d j; omega)).step sw (fun j q e => by have := b.o4.ge q; have e : j = bb := e; omega)), ((b.o6.step s (fun j q q2 => by have := vtag_own.2 q; have := vtag_own.2 q2; have := b.d j; omega)).step sw (fun j q e => by have := b.o6.ge q; have e : j = bb := e; omega)), ((b.o8.step s (fun j q q2 => by have := vtag_own.2 q; have := vtag_own.2 q2; have := b.d j; omega)).step sw (fun j q e => by have := b.o8.ge q; have e : j = bb := e; omega)), fun n => ?_⟩, (s.mono (fun j _ q => .inr (.inr (.inl q)))).trans sw (fun j _ e => .inl e), fun j q => (by
    rcases q with q | q | q | q | q | q
    · exact .inl (.inl q)
    · exact .inl (.inr (.inl q))
    · exact (hb j q).imp (fun q => .inr (.inr (.inl q))) id
    · exact .inl (.inr (.inr (.inr (.inl q))))
    · exact .inl (.inr (.inr (.inr (.inr (.inl q)))))
    · exact .inl (.inr (.inr (.inr (.inr (.inr (q))))))
    )⟩
  · have e : (bkE v0 v2 v4 v6 v8).set 2 w = bkE v0 w v4 v6 v8 := rfl
    rw [← e]; exact B2
  · have d := b.d n
    have l1 := vtag_le w n
    by_cases q : 0 < (vtag w).count n
    · rcases hb n (vtag_own.1 q) with q2 | q2
      · have := vtag_own.2 q2; omega
      · have hl : ∀ x : Value, (∀ j, OwnB x j → j < h.size) → (vtag x).count n = 0 := fun x hx => by
          apply Decidable.byContradiction; intro hne
          have := hx n (vtag_own.1 (by omega)); omega
        have := hl v0 (fun j q => b.o0.lt q)
        have := hl v4 (fun j q => b.o4.lt q)
        have := hl v6 (fun j q => b.o6.lt q)
        have := hl v8 (fun j q => b.o8.lt q)
        omega
    · omega
theorem BkS.put4 {bb : Nat} {u u' : U} {h h' : H} {m : BkM} {v0 v2 v4 v6 v8 w : Value} {g : SlG ClauseG} (b : BkS bb u h m v0 v2 v4 v6 v8) (s : Step (OwnB v4) u h u' h') (o : Own (bb + 1) u' h' w (m.c ++ [g])) (hb : ∀ j, OwnB w j → OwnB v4 j ∨ h.size ≤ j) :
    BkS bb u' (hset h' bb 4 w) { m with c := m.c ++ [g] } v0 v2 w v6 v8 ∧ Step (BkB bb v0 v2 v4 v6 v8) u h u' (hset h' bb 4 w) ∧ Nx bb v0 v2 v4 v6 v8 h v0 v2 w v6 v8 := by
  have B1 := b.B.step s (fun q => by have := b.o4.ge q; omega)
  have sw := Step.set (S := fun j => j = bb) u' h' (b := bb) (o := 4) w rfl (by rw [B1.2.2.2.1]; exact Nat.zero_le _)
  have B2 := B1.set (i := 4) (v := w) (by simp [bkE])
  refine ⟨⟨?_, ((b.o0.step s (fun j q q2 => by have := vtag_own.2 q; have := vtag_own.2 q2; have := b.d j; omega)).step sw (fun j q e => by have := b.o0.ge q; have e : j = bb := e; omega)), ((b.o2.step s (fun j q q2 => by have := vtag_own.2 q; have := vtag_own.2 q2; have := b.d j; omega)).step sw (fun j q e => by have := b.o2.ge q; have e : j = bb := e; omega)), (o.step sw (fun j q e => by have := o.ge q; have e : j = bb := e; omega)), ((b.o6.step s (fun j q q2 => by have := vtag_own.2 q; have := vtag_own.2 q2; have := b.d j; omega)).step sw (fun j q e => by have := b.o6.ge q; have e : j = bb := e; omega)), ((b.o8.step s (fun j q q2 => by have := vtag_own.2 q; have := vtag_own.2 q2; have := b.d j; omega)).step sw (fun j q e => by have := b.o8.ge q; have e : j = bb := e; omega)), fun n => ?_⟩, (s.mono (fun j _ q => .inr (.inr (.inr (.inl q))))).trans sw (fun j _ e => .inl e), fun j q => (by
    rcases q with q | q | q | q | q | q
    · exact .inl (.inl q)
    · exact .inl (.inr (.inl q))
    · exact .inl (.inr (.inr (.inl q)))
    · exact (hb j q).imp (fun q => .inr (.inr (.inr (.inl q)))) id
    · exact .inl (.inr (.inr (.inr (.inr (.inl q)))))
    · exact .inl (.inr (.inr (.inr (.inr (.inr (q))))))
    )⟩
  · have e : (bkE v0 v2 v4 v6 v8).set 4 w = bkE v0 v2 w v6 v8 := rfl
    rw [← e]; exact B2
  · have d := b.d n
    have l1 := vtag_le w n
    by_cases q : 0 < (vtag w).count n
    · rcases hb n (vtag_own.1 q) with q2 | q2
      · have := vtag_own.2 q2; omega
      · have hl : ∀ x : Value, (∀ j, OwnB x j → j < h.size) → (vtag x).count n = 0 := fun x hx => by
          apply Decidable.byContradiction; intro hne
          have := hx n (vtag_own.1 (by omega)); omega
        have := hl v0 (fun j q => b.o0.lt q)
        have := hl v2 (fun j q => b.o2.lt q)
        have := hl v6 (fun j q => b.o6.lt q)
        have := hl v8 (fun j q => b.o8.lt q)
        omega
    · omega
theorem BkS.put6 {bb : Nat} {u u' : U} {h h' : H} {m : BkM} {v0 v2 v4 v6 v8 w : Value} {g : SlG AtomG} (b : BkS bb u h m v0 v2 v4 v6 v8) (s : Step (OwnB v6) u h u' h') (o : Own (bb + 1) u' h' w (m.t ++ [g])) (hb : ∀ j, OwnB w j → OwnB v6 j ∨ h.size ≤ j) :
    BkS bb u' (hset h' bb 6 w) { m with t := m.t ++ [g] } v0 v2 v4 w v8 ∧ Step (BkB bb v0 v2 v4 v6 v8) u h u' (hset h' bb 6 w) ∧ Nx bb v0 v2 v4 v6 v8 h v0 v2 v4 w v8 := by
  have B1 := b.B.step s (fun q => by have := b.o6.ge q; omega)
  have sw := Step.set (S := fun j => j = bb) u' h' (b := bb) (o := 6) w rfl (by rw [B1.2.2.2.1]; exact Nat.zero_le _)
  have B2 := B1.set (i := 6) (v := w) (by simp [bkE])
  refine ⟨⟨?_, ((b.o0.step s (fun j q q2 => by have := vtag_own.2 q; have := vtag_own.2 q2; have := b.d j; omega)).step sw (fun j q e => by have := b.o0.ge q; have e : j = bb := e; omega)), ((b.o2.step s (fun j q q2 => by have := vtag_own.2 q; have := vtag_own.2 q2; have := b.d j; omega)).step sw (fun j q e => by have := b.o2.ge q; have e : j = bb := e; omega)), ((b.o4.step s (fun j q q2 => by have := vtag_own.2 q; have := vtag_own.2 q2; have := b.d j; omega)).step sw (fun j q e => by have := b.o4.ge q; have e : j = bb := e; omega)), (o.step sw (fun j q e => by have := o.ge q; have e : j = bb := e; omega)), ((b.o8.step s (fun j q q2 => by have := vtag_own.2 q; have := vtag_own.2 q2; have := b.d j; omega)).step sw (fun j q e => by have := b.o8.ge q; have e : j = bb := e; omega)), fun n => ?_⟩, (s.mono (fun j _ q => .inr (.inr (.inr (.inr (.inl q)))))).trans sw (fun j _ e => .inl e), fun j q => (by
    rcases q with q | q | q | q | q | q
    · exact .inl (.inl q)
    · exact .inl (.inr (.inl q))
    · exact .inl (.inr (.inr (.inl q)))
    · exact .inl (.inr (.inr (.inr (.inl q))))
    · exact (hb j q).imp (fun q => .inr (.inr (.inr (.inr (.inl q))))) id
    · exact .inl (.inr (.inr (.inr (.inr (.inr (q))))))
    )⟩
  · have e : (bkE v0 v2 v4 v6 v8).set 6 w = bkE v0 v2 v4 w v8 := rfl
    rw [← e]; exact B2
  · have d := b.d n
    have l1 := vtag_le w n
    by_cases q : 0 < (vtag w).count n
    · rcases hb n (vtag_own.1 q) with q2 | q2
      · have := vtag_own.2 q2; omega
      · have hl : ∀ x : Value, (∀ j, OwnB x j → j < h.size) → (vtag x).count n = 0 := fun x hx => by
          apply Decidable.byContradiction; intro hne
          have := hx n (vtag_own.1 (by omega)); omega
        have := hl v0 (fun j q => b.o0.lt q)
        have := hl v2 (fun j q => b.o2.lt q)
        have := hl v4 (fun j q => b.o4.lt q)
        have := hl v8 (fun j q => b.o8.lt q)
        omega
    · omega
theorem BkS.put8 {bb : Nat} {u u' : U} {h h' : H} {m : BkM} {v0 v2 v4 v6 v8 w : Value} {g : SlG ConstT} (b : BkS bb u h m v0 v2 v4 v6 v8) (s : Step (OwnB v8) u h u' h') (o : Own (bb + 1) u' h' w (m.k ++ [g])) (hb : ∀ j, OwnB w j → OwnB v8 j ∨ h.size ≤ j) :
    BkS bb u' (hset h' bb 8 w) { m with k := m.k ++ [g] } v0 v2 v4 v6 w ∧ Step (BkB bb v0 v2 v4 v6 v8) u h u' (hset h' bb 8 w) ∧ Nx bb v0 v2 v4 v6 v8 h v0 v2 v4 v6 w := by
  have B1 := b.B.step s (fun q => by have := b.o8.ge q; omega)
  have sw := Step.set (S := fun j => j = bb) u' h' (b := bb) (o := 8) w rfl (by rw [B1.2.2.2.1]; exact Nat.zero_le _)
  have B2 := B1.set (i := 8) (v := w) (by simp [bkE])
  refine ⟨⟨?_, ((b.o0.step s (fun j q q2 => by have := vtag_own.2 q; have := vtag_own.2 q2; have := b.d j; omega)).step sw (fun j q e => by have := b.o0.ge q; have e : j = bb := e; omega)), ((b.o2.step s (fun j q q2 => by have := vtag_own.2 q; have := vtag_own.2 q2; have := b.d j; omega)).step sw (fun j q e => by have := b.o2.ge q; have e : j = bb := e; omega)), ((b.o4.step s (fun j q q2 => by have := vtag_own.2 q; have := vtag_own.2 q2; have := b.d j; omega)).step sw (fun j q e => by have := b.o4.ge q; have e : j = bb := e; omega)), ((b.o6.step s (fun j q q2 => by have := vtag_own.2 q; have := vtag_own.2 q2; have := b.d j; omega)).step sw (fun j q e => by have := b.o6.ge q; have e : j = bb := e; omega)), (o.step sw (fun j q e => by have := o.ge q; have e : j = bb := e; omega)), fun n => ?_⟩, (s.mono (fun j _ q => .inr (.inr (.inr (.inr (.inr (q))))))).trans sw (fun j _ e => .inl e), fun j q => (by
    rcases q with q | q | q | q | q | q
    · exact .inl (.inl q)
    · exact .inl (.inr (.inl q))
    · exact .inl (.inr (.inr (.inl q)))
    · exact .inl (.inr (.inr (.inr (.inl q))))
    · exact .inl (.inr (.inr (.inr (.inr (.inl q)))))
    · exact (hb j q).imp (fun q => .inr (.inr (.inr (.inr (.inr (q)))))) id
    )⟩
  · have e : (bkE v0 v2 v4 v6 v8).set 8 w = bkE v0 v2 v4 v6 w := rfl
    rw [← e]; exact B2
  · have d := b.d n
    have l1 := vtag_le w n
    by_cases q : 0 < (vtag w).count n
    · rcases hb n (vtag_own.1 q) with q2 | q2
      · have := vtag_own.2 q2; omega
      · have hl : ∀ x : Value, (∀ j, OwnB x j → j < h.size) → (vtag x).count n = 0 := fun x hx => by
          apply Decidable.byContradiction; intro hne
          have := hx n (vtag_own.1 (by omega)); omega
        have := hl v0 (fun j q => b.o0.lt q)
        have := hl v2 (fun j q => b.o2.lt q)
        have := hl v4 (fun j q => b.o4.lt q)
        have := hl v6 (fun j q => b.o6.lt q)
        omega
    · omega
end Go.Ev
namespace Go.Proofs.YtlenjlidahnklaaDoor
open Go Go.Ev Edict HasTags
def C_mark (vs : List Value) (h : H) (K : Value → H → Prop) : Prop := ∃ i j : Nat, vs = [.int .i64 (i : Nat), .int .i64 (j : Nat)] ∧ K (.int .i64 (markF i j)) h
theorem owMark_ok {vs : List Value} {h : H} {K : Value → H → Prop} {KP : List PanicEntry → H → Prop} (hC : C_mark vs h K) : HCX Tryd.prog 23 vs h K KP := by
  obtain ⟨i, j, rfl, hK⟩ := hC
  refine owMark_H (fun _ _ _ _ _ => False) (fun _ _ _ _ _ h => h.elim) _ _ ?_
  unfold markF at hK
  simp (disch := first | omega | (simp only [e_ssz, e_psz, e_hszs, List.length_cons, List.length_nil]; try omega; done)) only [↓reduceIte, go_sem, owMark_S, owMark_E]
  exact hK
def C_addArgs (vs : List Value) (h : H) (K : Value → H → Prop) : Prop := ∃ (u : U) (bb : Nat) (m : BkM) (v0 v2 v4 v6 v8 x : Value) (g : SlG TermT), vs = [.pointer (some ⟨bb, 0, none⟩), x] ∧ BkS bb u h m v0 v2 v4 v6 v8 ∧ Rep.rep u h g [x] ∧ m.len ≤ 1000000000 ∧
  ∀ u' h' m' w0 w2 w4 w6 w8, Step (BkB bb v0 v2 v4 v6 v8) u h u' h' → Nx bb v0 v2 v4 v6 v8 h w0 w2 w4 w6 w8 → BkS bb u' h' m' w0 w2 w4 w6 w8 → Ad m m' (tags g) 1 → K (.tuple #[]) h'
theorem owAddArgs_ok {vs : List Value} {h : H} {K : Value → H → Prop} {KP : List PanicEntry → H → Prop} (hC : C_addArgs vs h K) : HCX Tryd.prog 21 vs h K KP := by
  obtain ⟨u, bb, m, v0, v2, v4, v6, v8, x, g, rfl, b, r, hl, hK⟩ := hC
  obtain ⟨xa, xc, rfl⟩ := slg_sl r
  refine owAddArgs_H (fun _ _ _ _ _ => False) (fun _ _ _ _ _ h => h.elim) _ _ ?_
  have hB := b.B
  unfold bkE at hB
  have hB1 := hB.1
  by_cases h0 : g.l.length = 0
  · simp (disch := first | omega | (simp only [e_ssz, e_psz, e_hszs, List.length_cons, List.length_nil]; try omega; done)) only [↓reduceIte, go_sem, owAddArgs_S, owAddArgs_E, eq_false (show ¬ (0 : Int) < (g.l.length : Nat) by omega)]
    exact hK _ _ _ _ _ _ _ _ (.refl _ _ _) (.refl _ _ _ _ _ _ _) b (.refl _ _ _)
  · have sP := Step.push0 S0 u h #[.slice xa g.l.length xc] 58
    have hP := hB.step0 sP
    have hP1 := hP.1
    have hml : m.a.length ≤ 1000000000 := by unfold BkM.len at hl; omega
    obtain ⟨y0, z0, hv0, -, -⟩ := b.o0.sl
    have o0 := b.o0
    rw [hv0] at hB hP
    simp (disch := first | omega | (simp only [e_ssz, e_psz, e_hszs, List.length_cons, List.length_nil]; try omega; done)) only [↓reduceIte, go_sem, owAddArgs_S, owAddArgs_E, eq_true (show (0 : Int) < (g.l.length : Nat) by omega), hB.at, hB.2.1]
    rw [← hv0]
    refine effS_app1q rfl o0 (x := g) r rfl rfl (by omega) (by omega) fun a8 n8 c8 u8 h8 o8 s8 hO8 => ⟨by simp (disch := first | omega | (simp only [e_ssz, e_psz, e_hszs, List.length_cons, List.length_nil]; try omega; done)) only [go_sem], ?_⟩
    obtain ⟨b9, s9, n9⟩ := b.put0 s8 o8 hO8
    have z1 : hsz h8 bb = 10 := by rw [(s8.ge.hs bb hB1).1, hB.2.1]; rfl
    have z2 : hfr h8 bb = (0, 0) := by rw [(s8.ge.hs bb hB1).2, hB.2.2.1]
    simp (disch := first | omega | (simp only [e_ssz, e_psz, e_hszs, List.length_cons, List.length_nil]; try omega; done)) only [↓reduceIte, go_sem, z1, z2]
    refine hK _ _ _ _ _ _ _ _ s9 n9 b9 ((Ad.put0 m g).le (fun n => ?_) (Nat.le_refl _))
    show _ ≤ (g.l.flatMap tags ++ g.t.toList).count n
    rw [List.count_append]; omega
def C_addBody (vs : List Value) (h : H) (K : Value → H → Prop) : Prop := ∃ (u : U) (bb : Nat) (m : BkM) (v0 v2 v4 v6 v8 x : Value) (g : SlG LitG), vs = [.pointer (some ⟨bb, 0, none⟩), x] ∧ BkS bb u h m v0 v2 v4 v6 v8 ∧ Rep.rep u h g [x] ∧ m.len ≤ 900000000 ∧
  ∀ u' h' m' w0 w2 w4 w6 w8, Step (BkB bb v0 v2 v4 v6 v8) u h u' h' → Nx bb v0 v2 v4 v6 v8 h w0 w2 w4 w6 w8 → BkS bb u' h' m' w0 w2 w4 w6 w8 → Ad m m' (tags g) 5001 → K (.tuple #[]) h'
def G_addBody : Ctr := fun f vs h K _ => f = 21 ∧ C_addArgs vs h K
theorem G_addBody_ok : GOk Tryd.prog G_addBody := by
  rintro f vs h K KP ⟨rfl, hC⟩; exact owAddArgs_ok hC
theorem owAddBody_ok {vs : List Value} {h : H} {K : Value → H → Prop} {KP : List PanicEntry → H → Prop} (hC : C_addBody vs h K) : HCX Tryd.prog 22 vs h K KP := by
  obtain ⟨u, bb, m, v0, v2, v4, v6, v8, x, g, rfl, b, r, hl, hK⟩ := hC
  obtain ⟨xa, xc, rfl⟩ := slg_sl r
  have hle := slg_le r
  have hm := mlenW
  refine owAddBody_H G_addBody G_addBody_ok _ _ ?_
  by_cases h0 : g.l.length = 0
  · simp (disch := first | omega | (simp only [e_ssz, e_psz, e_hszs, List.length_cons, List.length_nil]; try omega; done)) only [↓reduceIte, go_sem, owAddBody_S, owAddBody_E, eq_true (show ((g.l.length : Nat) : Int) = 0 by omega)]
    exact hK _ _ _ _ _ _ _ _ (.refl _ _ _) (.refl _ _ _ _ _ _ _) b (.refl _ _ _)
  simp (disch := first | omega | (simp only [e_ssz, e_psz, e_hszs, List.length_cons, List.length_nil]; try omega; done)) only [↓reduceIte, go_sem, owAddBody_S, owAddBody_E, eq_false (show ¬ ((g.l.length : Nat) : Int) = 0 by omega)]
  obtain ⟨I, hI⟩ : ∃ I : Nat → Env → H → Prop, I = fun i σ h' => ∃ (u' : U) (m' : BkM) (w0 w2 w4 w6 w8 : Value), σ 0 = .pointer (some ⟨bb, 0, none⟩) ∧ σ 1 = .slice xa g.l.length xc ∧ σ 9 = .slice xa g.l.length xc ∧ σ 10 = .int .i64 (g.l.length : Nat) ∧ σ 11 = .int .i64 (i : Nat) ∧ i ≤ g.l.length ∧ Step (BkB bb v0 v2 v4 v6 v8) u h u' h' ∧ Nx bb v0 v2 v4 v6 v8 h w0 w2 w4 w6 w8 ∧ BkS bb u' h' m' w0 w2 w4 w6 w8 ∧ Rep.rep u' h' g [.slice xa g.l.length xc] ∧ Ad m m' ((g.l.take i).flatMap tags) i := ⟨_, rfl⟩
  refine wpS_loop I (fun j => g.l.length - j) 0 (by rw [hI]; exact ⟨u, m, _, _, _, _, _, by simp [upd], by simp [upd], by simp [upd], by simp [upd], by simp [upd], Nat.zero_le _, .refl _ _ _, .refl _ _ _ _ _ _ _, b, r, .refl _ _ _⟩) ?_
  intro i σ h1 hy
  rw [hI] at hy
  obtain ⟨u1, m1, w0, w2, w4, w6, w8, e0, e1, e9, e10, e11, hi, st, nx, b1, r1, ad⟩ := hy
  have hbb := b1.B.1
  have hlen := ad.2
  by_cases hlt : i < g.l.length
  · obtain ⟨y, hy⟩ : ∃ y, g.l[i]? = some y := ⟨g.l[i], by simp [hlt]⟩
    obtain ⟨pb, po, hxa, hpb, hpu, hpz, hpr⟩ := (slg_isSl r1).row i y hy
    subst hxa
    rw [rep_litG] at hpr
    obtain ⟨yv, hpr, ry⟩ := hpr
    obtain ⟨ya, yc, rfl⟩ := slg_sl ry
    simp only [litE, sz_litG, hvs_14, List.cons.injEq, and_true] at hpr hpu hpz
    obtain ⟨p0, p1, p2, p3, p4, p5, p6, p7, p8, p9, p10, p11, p12, p13⟩ := hpr
    have s2 := Step.push0 S0 u1 h1 (litE (pL y) (.slice ya y.2.1.2.1.l.length yc)).toArray 74
    have X := Blk.new (u := u1) (h := h1) (litE (pL y) (.slice ya y.2.1.2.1.l.length yc)) 74
    obtain ⟨h2, hh2⟩ : ∃ h2, h2 = h1.push (.cells (litE (pL y) (.slice ya y.2.1.2.1.l.length yc)).toArray 74) := ⟨_, rfl⟩
    obtain ⟨u2, hu2⟩ : ∃ u2, u2 = ub u1 h1.size 0 := ⟨_, rfl⟩
    have X : Blk u2 h2 h1.size (litE (pL y) (.slice ya y.2.1.2.1.l.length yc)) := by rw [hu2, hh2]; exact X
    rw [← hh2, ← hu2] at s2
    simp only [litE] at X hh2
    have X1 := X.1
    simp (disch := first | omega | (simp only [e_ssz, e_psz, e_hszs, List.length_cons, List.length_nil]; try omega; done)) only [↓reduceIte, go_sem, owAddBody_L1, e0, e9, e10, e11, hlt, p0, p1, p2, p3, p4, p5, p6, p7, p8, p9, p10, p11, p12, p13, ← hh2, X.at, X.2.1]
    clear hh2 hu2
    refine effS_call ⟨rfl, u2, bb, m1, w0, w2, w4, w6, w8, _, y.2.1.2.1, rfl, b1.step0 s2, Rep.mono s2.ge ry, by omega, fun u3 h3 m3 z0 z2 z4 z6 z8 s3 n3 b3 ad3 => ⟨by simp (disch := first | omega | (simp only [e_ssz, e_psz, e_hszs, List.length_cons, List.length_nil]; try omega; done)) only [go_sem], ?_⟩⟩
    simp (disch := first | omega | (simp only [e_ssz, e_psz, e_hszs, List.length_cons, List.length_nil]; try omega; done)) only [↓reduceIte, go_sem, e11]
    refine ⟨i + 1, ?_, by omega⟩
    rw [hI]
    refine ⟨u3, m3, _, _, _, _, _, by simp [upd, e0], by simp [upd, e1], by simp [upd, e9], by simp [upd, e10], by simp [upd], hlt, (st.trans0 s2).trans s3 (fun j hj q => (nx j q).elim id (fun q => by omega)), nx.trans n3 (by have := st.ge.sz; have := s2.ge.sz; omega), b3, Rep.mono s3.ge (Rep.mono s2.ge r1), ?_⟩
    have e : (g.l.take (i + 1)).flatMap tags = (g.l.take i).flatMap tags ++ tags y.2.1.2.1 := by
      rw [List.take_add_one, hy, List.flatMap_append, ← tags_li]; simp
    rw [e]
    exact ad.trans ad3
  · obtain rfl : i = g.l.length := by omega
    rw [List.take_length] at ad
    have hB := b1.B
    unfold bkE at hB
    have sP := Step.push0 S0 u1 h1 #[.slice xa g.l.length xc] 28
    have hP := hB.step0 sP
    have hP1 := hP.1
    have hml : m1.l.length ≤ 1000000000 := by unfold BkM.len at hlen hl; omega
    obtain ⟨y0, z0, hv0, -, -⟩ := b1.o2.sl
    have o0 := b1.o2
    rw [hv0] at hB hP
    simp (disch := first | omega | (simp only [e_ssz, e_psz, e_hszs, List.length_cons, List.length_nil]; try omega; done)) only [↓reduceIte, go_sem, owAddBody_L1, e0, e1, e10, e11, hB.at, hB.2.1]
    rw [← hv0]
    refine effS_app1q rfl o0 (x := g) r1 rfl rfl (by omega) (by omega) fun a8 n8 c8 u8 h8 o8 s8 hO8 => ⟨by simp (disch := first | omega | (simp only [e_ssz, e_psz, e_hszs, List.length_cons, List.length_nil]; try omega; done)) only [go_sem], ?_⟩
    obtain ⟨b9, s9, n9⟩ := b1.put2 s8 o8 hO8
    have z1 : hsz h8 bb = 10 := by rw [(s8.ge.hs bb hbb).1, hB.2.1]; rfl
    have z2 : hfr h8 bb = (0, 0) := by rw [(s8.ge.hs bb hbb).2, hB.2.2.1]
    simp (disch := first | omega | (simp only [e_ssz, e_psz, e_hszs, List.length_cons, List.length_nil]; try omega; done)) only [↓reduceIte, go_sem, z1, z2, e0]
    exact hK _ _ _ _ _ _ _ _ (Nx.step st nx s9) (nx.trans n9 st.ge.sz) b9 ((ad.trans (Ad.put2 m1 g)).le (fun n => Nat.le_refl _) (by omega))
end Go.Proofs.YtlenjlidahnklaaDoor
