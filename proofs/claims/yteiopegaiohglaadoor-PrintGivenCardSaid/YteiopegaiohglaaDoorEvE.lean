/- The layer, fifth part: a row's type; builders of texts. -/
import Derived.Test.YteiopegaiohglaaDoorEvD
namespace Go.Ev
open Go Rep
/-- The type of a block's cells. -/
def htyp (h : H) (b : Nat) : Option TypeId := match h[b]? with | some (.cells _ t _) => some t | _ => none
theorem hset_typ (h : H) (b o i : Nat) (v : Value) : htyp (hset h b o v) i = htyp h i := by
  unfold htyp hset
  rw [Array.getElem?_modify]
  by_cases e : b = i
  · subst e
    rw [if_pos rfl]
    cases h[b]? with
    | none => rfl
    | some x => cases x <;> rfl
  · rw [if_neg e]
theorem hsets_typ (b i : Nat) : ∀ (l : List Value) (h : H) (o : Nat), htyp (hsets h b o l) i = htyp h i
  | [], _, _ => rfl
  | v :: l, h, o => by
    show htyp (hsets (hset h b o v) b (o + 1) l) i = _
    rw [hsets_typ b i l, hset_typ]
/-- What a slice's blocks are, behind an append to it. -/
def TypP (e : TypeId) (v : Value) (h : H) (v' : Value) (h' : H) : Prop := ∀ i, OwnB v' i → htyp h' i = some e ∨ (OwnB v i ∧ htyp h' i = htyp h i)
theorem ownb_some {b o : Nat} {s : Option Nat} {n c i : Nat} : OwnB (.slice (some ⟨b, o, s⟩) n c) i → i = b := by
  rintro ⟨o', n', c', e⟩; cases e; rfl
theorem ownb_none {n c i : Nat} : ¬ OwnB (.slice none n c) i := by rintro ⟨o', n', c', e⟩; cases e
theorem app_typ {G : Ctr} {e : TypeId} {sz bytes : Nat} {z : List Value} {v w : Value} {h : H} {K K' : Value → H → Prop} {KP : List PanicEntry → H → Prop}
    (H1 : fpre G (.app e sz bytes z) [v, w] h K KP) (hK : ∀ v' h', K v' h' → TypP e v h v' h' → K' v' h') : fpre G (.app e sz bytes z) [v, w] h K' KP := by
  simp only [fpre] at H1 ⊢
  split at H1 <;> try (exact H1.elim)
  rename_i a n c b m d
  obtain ⟨q1, q2, q3, q4, olds, news, q5, q6, q7, q8⟩ := H1
  refine ⟨q1, q2, q3, q4, olds, news, q5, q6, fun hle => ?_, fun hlt cap c1 c2 => hK _ _ (q8 hlt cap c1 c2) fun i hi => .inl ?_⟩
  · have := q7 hle
    split at this
    · exact hK _ _ this fun i hi => absurd hi ownb_none
    · rename_i bb o
      refine ⟨this.1, hK _ _ this.2 fun i hi => .inr ⟨?_, hsets_typ _ _ _ _ _⟩⟩
      cases ownb_some hi
      exact ⟨_, _, _, rfl⟩
    · exact this.elim
  · cases ownb_some hi
    unfold htyp
    rw [Array.getElem?_push_size]
theorem apps_typ {G : Ctr} {e : TypeId} {v w : Value} {h : H} {K K' : Value → H → Prop} {KP : List PanicEntry → H → Prop}
    (H1 : fpre G (.apps e) [v, w] h K KP) (hK : ∀ v' h', K v' h' → TypP e v h v' h' → K' v' h') : fpre G (.apps e) [v, w] h K' KP := by
  simp only [fpre] at H1 ⊢
  split at H1 <;> try (exact H1.elim)
  rename_i a n c
  obtain ⟨q1, q2, q3, q4, olds, q5, q7, q8⟩ := H1
  refine ⟨q1, q2, q3, q4, olds, q5, fun hle => ?_, fun hlt cap c1 c2 => hK _ _ (q8 hlt cap c1 c2) fun i hi => .inl ?_⟩
  · have := q7 hle
    split at this
    · exact hK _ _ this fun i hi => absurd hi ownb_none
    · rename_i bb o
      refine ⟨this.1, hK _ _ this.2 fun i hi => .inr ⟨?_, hsets_typ _ _ _ _ _⟩⟩
      cases ownb_some hi
      exact ⟨_, _, _, rfl⟩
    · exact this.elim
  · cases ownb_some hi
    unfold htyp
    rw [Array.getElem?_push_size]
/-- A builder of a text, in block b, its rows from block k on. -/
def Bld (T e : TypeId) (k : Nat) (u : U) (h : H) (b : Nat) (l : List UInt8) : Prop := ∃ p v, h[b]? = some (.cells #[p, v] T (0, 0)) ∧ (p = .pointer none ∨ p = .pointer (some ⟨b, 0, none⟩)) ∧ OwnY k u h v l ∧ ¬ OwnB v b ∧ u b = 0 ∧ k ≤ b ∧ ∀ i, OwnB v i → htyp h i = some e
/-- The blocks of a builder. -/
def BldB (h : H) (b : Nat) : Nat → Prop := fun i => i = b ∨ OwnB (Go.Ev.hv h b 1) i
theorem Bld.lt {T e : TypeId} {k : Nat} {u : U} {h : H} {b : Nat} {l : List UInt8} (k1 : Bld T e k u h b l) : b < h.size := by
  obtain ⟨p, v, hb, _⟩ := k1
  exact (Array.getElem?_eq_some_iff.1 hb).1
theorem Bld.ge {T e : TypeId} {k : Nat} {u : U} {h : H} {b : Nat} {l : List UInt8} (k1 : Bld T e k u h b l) {i : Nat} (hi : BldB h b i) : k ≤ i ∧ i < h.size := by
  have hlt := k1.lt
  obtain ⟨p, v, hb, hp, ho, hn, hu, hk, ht⟩ := k1
  rcases hi with rfl | hi
  · exact ⟨hk, hlt⟩
  · have e1 : Go.Ev.hv h b 1 = v := by unfold Go.Ev.hv hc; rw [hb]; rfl
    rw [e1] at hi
    refine ⟨@Own.ge UInt8 repB8 _ _ _ _ _ ho _ hi, ?_⟩
    have := ht i hi
    unfold htyp at this
    cases hx : h[i]? with
    | none => rw [hx] at this; cases this
    | some x => exact (Array.getElem?_eq_some_iff.1 hx).1
theorem Bld.step {T e : TypeId} {k : Nat} {S : Nat → Prop} {u u' : U} {h h' : H} {b : Nat} {l : List UInt8} (k1 : Bld T e k u h b l) (s : Step S u h u' h') (hn : ∀ i, BldB h b i → ¬ S i) : Bld T e k u' h' b l ∧ Go.Ev.hv h' b 1 = Go.Ev.hv h b 1 := by
  have hlt := k1.lt
  have hge := fun i hi => (k1.ge (i := i) hi).2
  obtain ⟨p, v, hb, hp, ho, hn1, hu, hk, ht⟩ := k1
  have e1 : Go.Ev.hv h b 1 = v := by unfold Go.Ev.hv hc; rw [hb]; rfl
  have hS : ∀ i, OwnB v i → ¬ S i := fun i hi => hn i (.inr (by rw [e1]; exact hi))
  obtain ⟨s1, s2⟩ := s.same b hlt (hn b (.inl rfl))
  refine ⟨⟨p, v, by rw [s1]; exact hb, hp, @Own.step UInt8 repB8 _ _ _ _ _ _ _ _ ho s hS, hn1, by rw [s2]; exact hu, hk, fun i hi => ?_⟩, by unfold Go.Ev.hv hc; rw [s1]⟩
  have := (s.same i (hge i (.inr (by rw [e1]; exact hi))) (hS i hi)).1
  unfold htyp; rw [this]; exact ht i hi
theorem Bld.step0 {T e : TypeId} {k : Nat} {u u' : U} {h h' : H} {b : Nat} {l : List UInt8} (k1 : Bld T e k u h b l) (s : Step S0 u h u' h') : Bld T e k u' h' b l ∧ Go.Ev.hv h' b 1 = Go.Ev.hv h b 1 := k1.step s (fun _ _ h => h)
theorem Bld.kit {T e : TypeId} {k : Nat} {u : U} {w : World} {b : Nat} {l : List UInt8} (k1 : Bld T e k u w.heap b l) : Lib.IsBuilder T e k b (Lib.byteCells l) w := by
  obtain ⟨p, v, hb, hp, ho, hn1, hu, hk, ht⟩ := k1
  have hat : Lib.BuilderAt T e k b p (Lib.byteCells l) w := by
    refine ⟨hk, v, hb, ⟨by rw [Nat.mul_one], ?_⟩, fun hv => ?_⟩
    · rw [Lib.byteCells_length]
      rcases ho with ⟨rfl, rfl⟩ | ⟨g, c, rfl, h1, h2, h3, h4, h5, h6, h7, h8⟩
      · exact .inl ⟨rfl, rfl⟩
      · refine .inr ⟨g, c, ?_⟩
        have hty := ht g ⟨_, _, _, rfl⟩
        unfold htyp at hty
        cases hx : w.heap[g]? with
        | none => rw [hx] at hty; cases hty
        | some x =>
          rw [hx] at hty
          cases x with
          | cells cs t f =>
            simp only [Option.some.injEq] at hty
            subst hty
            have e1 : cs.size = c * 1 := by unfold hsz at h5; rw [hx] at h5; exact h5
            have e2 : f = (0, 0) := by unfold hfr at h6; rw [hx] at h6; exact h6
            subst e2
            refine ⟨cs, rfl, h3, rfl, h1, h2, e1, ?_⟩
            apply List.ext_getElem?
            intro i
            by_cases hi : i < l.length
            · have := h8 i l[i] (by simp [hi])
              rw [szY, hvs_1, Nat.mul_one] at this
              have e : Go.Ev.hv w.heap g i = Value.int .u8 l[i].toNat := by simpa using (show [Go.Ev.hv w.heap g i] = [Value.int .u8 l[i].toNat] from this)
              unfold Go.Ev.hv hc at e
              rw [hx] at e
              have hic : i < cs.size := by omega
              simp only [Array.getElem?_eq_getElem hic, Option.getD_some] at e
              rw [Nat.mul_one, List.getElem?_take, if_pos hi, Array.getElem?_toList, Array.getElem?_eq_getElem hic, e]
              simp [Lib.byteCells, hi]
            · rw [Nat.mul_one, List.getElem?_take, if_neg hi, List.getElem?_eq_none (by rw [Lib.byteCells_length]; omega)]
          | _ => cases hty
    · cases v with
      | slice a n c =>
        cases a with
        | none => cases hv
        | some a =>
          simp only [Value.ownBlock, Option.some.injEq] at hv
          obtain ⟨ab, ao, asx⟩ := a
          rcases ho with ⟨he, -⟩ | ⟨g, c', he, -⟩
          · cases he
          · cases he
            exact hn1 ⟨_, _, _, by rw [← hv]⟩
      | _ => cases hv
  rcases hp with rfl | rfl
  · exact .inl hat
  · exact .inr hat
theorem Bld.open {T e : TypeId} {k : Nat} {u : U} {h : H} {b : Nat} {l : List UInt8} (k1 : Bld T e k u h b l) : hsz h b = 2 ∧ hfr h b = (0, 0) ∧ u b = 0 ∧ OwnY k u h (Go.Ev.hv h b 1) l ∧ ¬ OwnB (Go.Ev.hv h b 1) b ∧ ∀ i, OwnB (Go.Ev.hv h b 1) i → htyp h i = some e := by
  obtain ⟨p, v, hb, hp, ho, hn, hu, hk, ht⟩ := k1
  have e1 : Go.Ev.hv h b 1 = v := by unfold Go.Ev.hv hc; rw [hb]; rfl
  rw [e1]
  exact ⟨by unfold hsz; rw [hb]; rfl, by unfold hfr; rw [hb], hu, ho, hn, ht⟩
/-- A builder's rows have grown, and its cell is written. -/
theorem bld_app {T e : TypeId} {k : Nat} {u u1 u2 : U} {h h1 h2 : H} {b : Nat} {l l' : List UInt8} {v' : Value} (B : Bld T e k u h b l) (s1 : Step (fun i => i = b) u h u1 h1) (B1 : Bld T e k u1 h1 b l) (e1 : Go.Ev.hv h1 b 1 = Go.Ev.hv h b 1)
    (ho : OwnY k u2 h2 v' l') (s2 : Step (OwnB (Go.Ev.hv h b 1)) u1 h1 u2 h2) (hb : ∀ i, OwnB v' i → OwnB (Go.Ev.hv h b 1) i ∨ h1.size ≤ i) (ht : TypP e (Go.Ev.hv h b 1) h1 v' h2) :
    Step (BldB h b) u h u2 (hset h2 b 1 v') ∧ Bld T e k u2 (hset h2 b 1 v') b l' ∧ ∀ i, BldB (hset h2 b 1 v') b i → BldB h b i ∨ h.size ≤ i := by
  have hlt := B1.lt
  have hltB := B.lt
  obtain ⟨_, _, hub, ho1, hn1, hty1⟩ := B1.open
  rw [e1] at ho1 hn1 hty1
  obtain ⟨p, v, hbk, hp, -, -, -, hk, -⟩ := B1
  obtain ⟨q1, q2⟩ := s2.same b hlt hn1
  have hbk2 : h2[b]? = some (.cells #[p, v] T (0, 0)) := by rw [q1]; exact hbk
  have hnb : ¬ OwnB v' b := fun hB => by
    rcases hb b hB with h | h
    · exact hn1 h
    · omega
  have hget : ∀ i, (hset h2 b 1 v')[i]? = if i = b then some (.cells #[p, v'] T (0, 0)) else h2[i]? := fun i => by
    rw [hset_get]
    by_cases e : i = b
    · subst e; rw [if_pos rfl, if_pos rfl, hbk2]; rfl
    · rw [if_neg e, if_neg e]
  have e3 : Go.Ev.hv (hset h2 b 1 v') b 1 = v' := by unfold Go.Ev.hv hc; rw [hget, if_pos rfl]; rfl
  have sw : Step (fun i => i = b) u2 h2 u2 (hset h2 b 1 v') := Step.set u2 h2 v' rfl (by rw [q2, hub]; exact Nat.zero_le _)
  have s12 : Step (BldB h b) u h u2 h2 := (s1.mono (S' := BldB h b) (fun i _ hi => .inl hi)).trans s2 (fun i _ hi => .inr hi)
  refine ⟨s12.trans sw (fun i _ hi => .inl hi), ⟨p, v', by rw [hget, if_pos rfl], hp, ?_, hnb, by rw [q2]; exact hub, hk, fun i hi => ?_⟩, fun i hi => ?_⟩
  · exact @Own.step UInt8 repB8 _ _ _ _ _ _ _ _ ho sw (fun i hi e => hnb (by have e : i = b := e; rw [← e]; exact hi))
  · rw [hset_typ]
    rcases ht i hi with h | ⟨h3, h4⟩
    · exact h
    · rw [h4]; exact hty1 i h3
  · rcases hi with rfl | hi
    · exact .inl (.inl rfl)
    · rw [e3] at hi
      rcases hb i hi with h | h
      · exact .inl (.inr h)
      · exact .inr (Nat.le_trans s1.ge.sz h)
end Go.Ev
