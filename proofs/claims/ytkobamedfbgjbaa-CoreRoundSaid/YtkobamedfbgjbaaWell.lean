import Derived.Test.YtkobamedfbgjbaaKbL
import Derived.Test.YtkobamedfbgjbaaShelfB
import Derived.Test.YtkobamedfbgjbaaKpS
import Derived.Test.YtkobamedfbgjbaaEvE
import Derived.Test.YtkobamedfbgjbaaWord
section Merged
namespace Go.Proofs.Ytkobamedfbgjbaa
open Go Go.Ev
abbrev Bu (k : Nat) (u : U) (h : H) (b : Nat) (l : List UInt8) : Prop := Bld 163 5 k u h b l
def C_check (vs : List Value) (h : H) (K : Value → H → Prop) : Prop := ∃ (k : Nat) (u : U) (b : Nat) (l : List UInt8), vs = [.pointer (some ⟨b, 0, none⟩)] ∧ Bu k u h b l ∧
  ∀ h', Step (fun i => i = b) u h u h' → Bu k u h' b l → Go.Ev.hv h' b 1 = Go.Ev.hv h b 1 → K (.tuple #[]) h'
theorem sbCheck_ok {vs : List Value} {h : H} {K : Value → H → Prop} {KP : List PanicEntry → H → Prop} (hC : C_check vs h K) : HCX Try.prog 104 vs h K KP := by
  obtain ⟨k, u, b, l, rfl, B, hK⟩ := hC
  refine .inl ⟨by kernel_rfl, fun w hw => ?_⟩
  subst hw
  have hlt := B.lt
  have hB := B
  obtain ⟨p, v, hb, hp, ho, hn, hu, hk, ht⟩ := B
  rcases hp with rfl | rfl
  · have c0 : w.cell? ⟨b, 0, none⟩ = some (.pointer none) := by rw [cell_hc]; unfold hc; rw [hb]; rfl
    have sh : w.shape? b = some (163, 2) := by unfold World.shape?; rw [hb]; rfl
    have fz : w.frozen? ⟨b, 0, none⟩ = false := Lib.frozen_of_heap hb 0
    refine (Any.Builder_copyCheck_fresh Try.lays240 Try.Builder_X72_240 b w c0 sh fz).mono ?_
    rintro e w' ⟨rfl, rfl⟩
    rw [setCell_heap]
    have sw : Step (fun i => i = b) u w.heap u (hset w.heap b 0 (.pointer (some ⟨b, 0, none⟩))) := Step.set u w.heap _ rfl (by rw [hu]; exact Nat.le_refl _)
    have hget : (hset w.heap b 0 (.pointer (some ⟨b, 0, none⟩)))[b]? = some (.cells #[.pointer (some ⟨b, 0, none⟩), v] 163 (0, 0)) := by
      rw [hset_get, if_pos rfl, hb]; rfl
    refine ⟨⟨rfl, rfl, rfl⟩, hK _ sw ⟨_, v, hget, .inr rfl, @Own.step UInt8 repB8 _ _ _ _ _ _ _ _ ho sw (fun i hi e => hn (by have e : i = b := e; rw [← e]; exact hi)), hn, hu, hk, fun i hi => by rw [hset_typ]; exact ht i hi⟩ (hset_hv (.inr (by decide)))⟩
  · have c0 : w.cell? ⟨b, 0, none⟩ = some (.pointer (some ⟨b, 0, none⟩)) := by rw [cell_hc]; unfold hc; rw [hb]; rfl
    refine (Any.Builder_copyCheck_used Try.lays240 Try.Builder_X72_240 b w c0).mono ?_
    rintro e w' ⟨rfl, rfl⟩
    exact ⟨⟨rfl, rfl, rfl⟩, hK _ (.refl _ _ _) hB rfl⟩
def C_add (r : List UInt8 → Value) (vs : List Value) (h : H) (m : List UInt8) (K : Value → H → Prop) : Prop := ∃ (k : Nat) (u : U) (b : Nat) (l : List UInt8), vs.head? = some (.pointer (some ⟨b, 0, none⟩)) ∧ Bu k u h b l ∧ l.length + m.length ≤ 140737488355328 ∧
  ∀ u' h', Step (BldB h b) u h u' h' → Bu k u' h' b (l ++ m) → (∀ i, BldB h' b i → BldB h b i ∨ h.size ≤ i) → K (r m) h'
def C_wbyte (vs : List Value) (h : H) (K : Value → H → Prop) : Prop := ∃ (a : Value) (c : UInt8), vs = [a, .int .u8 c.toNat] ∧ C_add (fun _ => .nilIface) vs h [c] K
def C_wstr (vs : List Value) (h : H) (K : Value → H → Prop) : Prop := ∃ (a : Value) (m : List UInt8), vs = [a, str m] ∧ C_add (fun m => .tuple #[.int .i64 m.length, .nilIface]) vs h m K
def C_write (vs : List Value) (h : H) (K : Value → H → Prop) : Prop := ∃ (k : Nat) (u : U) (b : Nat) (l m : List UInt8) (v : Value), vs = [.pointer (some ⟨b, 0, none⟩), v] ∧ Bu k u h b l ∧ IsSlY u h v m ∧ l.length + m.length ≤ 140737488355328 ∧
  ∀ u' h', Step (BldB h b) u h u' h' → Bu k u' h' b (l ++ m) → (∀ i, BldB h' b i → BldB h b i ∨ h.size ≤ i) → K (.tuple #[.int .i64 m.length, .nilIface]) h'
def G_sb : Ctr := fun f vs h K _ => f = 104 ∧ C_check vs h K
theorem G_sb_ok : GOk Try.prog G_sb := by
  rintro f vs h K KP ⟨rfl, hC⟩; exact sbCheck_ok hC
theorem sbWriteString_ok {vs : List Value} {h : H} {K : Value → H → Prop} {KP : List PanicEntry → H → Prop} (hC : C_wstr vs h K) : HCX Try.prog 101 vs h K KP := by
  obtain ⟨a, m, rfl, k, u, b, l, ha, B, hl, hK⟩ := hC
  obtain rfl : a = .pointer (some ⟨b, 0, none⟩) := by simpa using ha
  refine sbWriteString_H G_sb G_sb_ok _ _ ?_
  simp (disch := first | omega | (simp only [zz]; try omega; done)) only [↓reduceIte, go_sem, sbWriteString_S, sbWriteString_E]
  refine effS_call ⟨rfl, k, u, b, l, rfl, B, fun h1 s1 B1 e1 => ⟨by simp (disch := first | omega | (simp only [zz]; try omega; done)) only [go_sem], ?_⟩⟩
  obtain ⟨z1, z2, z3, ho, hn, hty⟩ := B1.open
  have hlt := B1.lt
  have hkl : k ≤ h1.size := Nat.le_trans (B1.ge (.inl rfl)).1 (Nat.le_of_lt hlt)
  simp (disch := first | omega | (simp only [zz]; try omega; done)) only [↓reduceIte, go_sem, z1]
  refine apps_typ (own_apps (K := fun v' h' => ∃ u', OwnY k u' h' v' (l ++ m) ∧ Step (OwnB (Go.Ev.hv h1 b 1)) u h1 u' h' ∧ ∀ i, OwnB v' i → OwnB (Go.Ev.hv h1 b 1) i ∨ h1.size ≤ i) ho hkl hl fun v' u' h' o' s' b' => ⟨u', o', s', b'⟩) fun v' h2 hq hT => ?_
  obtain ⟨u2, o2, s2, b2⟩ := hq
  rw [e1] at s2 b2 hT
  obtain ⟨f1, f2, f3⟩ := bld_app B s1 B1 e1 o2 s2 b2 hT
  have y1 : hsz h2 b = 2 := by rw [(s2.ge.hs b hlt).1]; exact z1
  have y2 : hfr h2 b = (0, 0) := by rw [(s2.ge.hs b hlt).2]; exact z2
  refine ⟨by simp (disch := first | omega | (simp only [zz]; try omega; done)) only [go_sem], ?_⟩
  obtain ⟨a', n', c', rfl⟩ : ∃ a' n' c', v' = .slice a' n' c' := by
    obtain ⟨x, y, hv, -⟩ := @Own.sl UInt8 repB8 _ _ _ _ _ o2
    exact ⟨_, _, _, hv⟩
  simp (disch := first | omega | (simp only [zz]; try omega; done)) only [↓reduceIte, go_sem, y1, y2]
  exact hK _ _ f1 f2 f3
theorem sbWriteByte_ok {vs : List Value} {h : H} {K : Value → H → Prop} {KP : List PanicEntry → H → Prop} (hC : C_wbyte vs h K) : HCX Try.prog 102 vs h K KP := by
  obtain ⟨a, c, rfl, k, u, b, l, ha, B, hl, hK⟩ := hC
  obtain rfl : a = .pointer (some ⟨b, 0, none⟩) := by simpa using ha
  refine sbWriteByte_H G_sb G_sb_ok _ _ ?_
  simp (disch := first | omega | (simp only [zz]; try omega; done)) only [↓reduceIte, go_sem, sbWriteByte_S, sbWriteByte_E]
  refine effS_call ⟨rfl, k, u, b, l, rfl, B, fun h1 s1 B1 e1 => ⟨by simp (disch := first | omega | (simp only [zz]; try omega; done)) only [go_sem], ?_⟩⟩
  obtain ⟨z1, z2, z3, ho, hn, hty⟩ := B1.open
  have hlt := B1.lt
  have hkl : k ≤ h1.size := Nat.le_trans (B1.ge (.inl rfl)).1 (Nat.le_of_lt hlt)
  have hin : ∀ i, OwnB (Go.Ev.hv h1 b 1) i → i < h1.size := fun i hi => (B1.ge (.inr hi)).2
  simp (disch := first | omega | (simp only [zz]; try omega; done)) only [↓reduceIte, go_sem, z1]
  refine app_typ (@own_app1 UInt8 repB8 _ _ 5 _ _ _ [.int .u8 c.toNat] _ u h1 _ l c (fun v' h' => ∃ u', OwnY k u' h' v' (l ++ [c]) ∧ Step (OwnB (Go.Ev.hv h1 b 1)) u h1 u' h' ∧ ∀ i, OwnB v' i → OwnB (Go.Ev.hv h1 b 1) i ∨ h1.size ≤ i) _ ho rfl rfl rfl hkl (by simpa using hl) fun v' u' h' o' s' b' => ⟨u', o', s', b'⟩) fun v' h2 hq hT => ?_
  obtain ⟨u2, o2, s2, b2⟩ := hq
  have hT' : TypP 5 (Go.Ev.hv h1 b 1) h1 v' h2 := fun i hi => (hT i hi).imp id fun ⟨q1, q2⟩ => ⟨q1, by
    rw [q2]; unfold htyp; rw [Array.getElem?_push_lt (hin i q1), Array.getElem?_eq_getElem (hin i q1)]⟩
  rw [e1] at s2 b2 hT'
  obtain ⟨f1, f2, f3⟩ := bld_app B s1 B1 e1 o2 s2 b2 hT'
  have y1 : hsz h2 b = 2 := by rw [(s2.ge.hs b hlt).1]; exact z1
  have y2 : hfr h2 b = (0, 0) := by rw [(s2.ge.hs b hlt).2]; exact z2
  refine ⟨by simp (disch := first | omega | (simp only [zz]; try omega; done)) only [go_sem], ?_⟩
  obtain ⟨a', n', c', rfl⟩ : ∃ a' n' c', v' = .slice a' n' c' := by
    obtain ⟨x, y, hv, -⟩ := @Own.sl UInt8 repB8 _ _ _ _ _ o2
    exact ⟨_, _, _, hv⟩
  simp (disch := first | omega | (simp only [zz]; try omega; done)) only [↓reduceIte, go_sem, y1, y2]
  exact hK _ _ f1 f2 f3
theorem sbWrite_ok {vs : List Value} {h : H} {K : Value → H → Prop} {KP : List PanicEntry → H → Prop} (hC : C_write vs h K) : HCX Try.prog 115 vs h K KP := by
  obtain ⟨k, u, b, l, m, v, rfl, B, hv, hl, hK⟩ := hC
  refine sbWrite_H G_sb G_sb_ok _ _ ?_
  obtain ⟨va, vc, rfl, -, -⟩ := @IsSl.sl UInt8 repB8 _ _ _ _ hv
  simp (disch := first | omega | (simp only [zz]; try omega; done)) only [↓reduceIte, go_sem, sbWrite_S, sbWrite_E]
  refine effS_call ⟨rfl, k, u, b, l, rfl, B, fun h1 s1 B1 e1 => ⟨by simp (disch := first | omega | (simp only [zz]; try omega; done)) only [go_sem], ?_⟩⟩
  obtain ⟨z1, z2, z3, ho, hn, hty⟩ := B1.open
  have hlt := B1.lt
  have hkl : k ≤ h1.size := Nat.le_trans (B1.ge (.inl rfl)).1 (Nat.le_of_lt hlt)
  have hv1 := @IsSl.mono UInt8 repB8 _ _ _ _ _ _ s1.ge hv
  simp (disch := first | omega | (simp only [zz]; try omega; done)) only [↓reduceIte, go_sem, z1]
  refine app_typ (@own_app UInt8 repB8 _ _ _ _ _ _ u h1 _ _ l m (fun v' h' => ∃ u', OwnY k u' h' v' (l ++ m) ∧ Step (OwnB (Go.Ev.hv h1 b 1)) u h1 u' h' ∧ ∀ i, OwnB v' i → OwnB (Go.Ev.hv h1 b 1) i ∨ h1.size ≤ i) _ ho hv1 rfl rfl hkl (by simpa using hl) fun v' u' h' o' s' b' => ⟨u', o', s', b'⟩) fun v' h2 hq hT => ?_
  obtain ⟨u2, o2, s2, b2⟩ := hq
  rw [e1] at s2 b2 hT
  obtain ⟨f1, f2, f3⟩ := bld_app B s1 B1 e1 o2 s2 b2 hT
  have y1 : hsz h2 b = 2 := by rw [(s2.ge.hs b hlt).1]; exact z1
  have y2 : hfr h2 b = (0, 0) := by rw [(s2.ge.hs b hlt).2]; exact z2
  refine ⟨by simp (disch := first | omega | (simp only [zz]; try omega; done)) only [go_sem], ?_⟩
  obtain ⟨a', n', c', rfl⟩ : ∃ a' n' c', v' = .slice a' n' c' := by
    obtain ⟨x, y, hv, -⟩ := @Own.sl UInt8 repB8 _ _ _ _ _ o2
    exact ⟨_, _, _, hv⟩
  simp (disch := first | omega | (simp only [zz]; try omega; done)) only [↓reduceIte, go_sem, y1, y2]
  exact hK _ _ f1 f2 f3
def C_bstring (vs : List Value) (h : H) (K : Value → H → Prop) : Prop := ∃ (k : Nat) (u : U) (b : Nat) (l : List UInt8), vs = [.pointer (some ⟨b, 0, none⟩)] ∧ Bu k u h b l ∧ l ≠ [] ∧
  ∀ h', h.size ≤ h'.size → (∀ i, i < k → h'[i]? = h[i]?) → K (str l) h'
theorem sbString_ok {vs : List Value} {h : H} {K : Value → H → Prop} {KP : List PanicEntry → H → Prop} (hC : C_bstring vs h K) : HCX Try.prog 74 vs h K KP := by
  obtain ⟨k, u, b, l, rfl, B, hne, hK⟩ := hC
  refine .inl ⟨by kernel_rfl, fun w hw => ?_⟩
  subst hw
  refine (Try.Builder_String k b l w B.kit hne).mono ?_
  rintro e w' ⟨rfl, hB⟩
  exact ⟨⟨hB.os, hB.tape, hB.output⟩, hK _ hB.size hB.block⟩
theorem Step.below {u0 u : U} {h0 h h' : H} (s : Step S0 u0 h0 u h) (hs : h.size ≤ h'.size) (hb : ∀ i, i < h0.size → h'[i]? = h[i]?) : Step S0 u0 h0 u h' := by
  have key : ∀ i, i < h0.size → h'[i]? = h0[i]? ∧ u i = u0 i := fun i hi => by
    obtain ⟨q1, q2⟩ := s.same i hi (fun h => h)
    exact ⟨by rw [hb i hi, q1], q2⟩
  refine ⟨⟨Nat.le_trans s.ge.sz hs, fun i hi => by rw [(key i hi).2]; exact Nat.le_refl _, fun i hi => ?_, fun i hi o _ => ?_⟩, fun i hi _ => key i hi⟩
  · unfold hsz hfr; rw [(key i hi).1]; exact ⟨rfl, rfl⟩
  · unfold Go.Ev.hv hc; rw [(key i hi).1]
theorem Bu.new (u : U) (h : H) : Bu h.size (ub u h.size 0) (h.push (.cells #[.pointer none, .slice none 0 0] 163)) h.size [] :=
  ⟨_, _, by rw [Array.getElem?_push_size], .inl rfl, .inl ⟨rfl, rfl⟩, ownb_none, ub_self, Nat.le_refl _, fun i hi => absurd hi ownb_none⟩
end Go.Proofs.Ytkobamedfbgjbaa
end Merged
section Merged
namespace Edict
def validB (k : Const) : Bool := if k.1 = 1 then decide (k.2.2 = []) else if k.1 = 2 then decide (k.2.1 = 0) && nameB k.2.2 else if k.1 = 3 then decide (k.2.1 = 0) && decide (k.2.2.length ≤ 255) else false
def constW (k : Const) : Int := if validB k then 0 else 5
def termW (t : Term) : Int := if t.1 = 4 then (if t.2.1 = 0 ∧ varB t.2.2.1 = true then 0 else 14) else constW (t.1, t.2.1, t.2.2.1)
def firstW {α : Type} (f : α → Int) : List α → Int
  | [] => 0
  | x :: l => if f x = 0 then firstW f l else f x
theorem firstW_drop {α : Type} {f : α → Int} {l : List α} {i : Nat} {x : α} (h : l[i]? = some x) : firstW f (l.drop i) = if f x = 0 then firstW f (l.drop (i + 1)) else f x := by
  obtain ⟨hi, rfl⟩ := List.getElem?_eq_some_iff.1 h
  rw [List.drop_eq_getElem_cons hi]; rfl
def zeroB (t : Term) : Bool := decide (t.1 = 0) && decide (t.2.1 = 0) && decide (t.2.2.1 = [])
def atomW (a : Atom) : Int := if nameB a.1 then (if 8 < a.2.1.length then 22 else firstW termW a.2.1) else 14
def testW (l : Literal) : Int := if l.2.2.1 < 1 ∨ 6 < l.2.2.1 ∨ l.2.1.1 ≠ [] ∨ l.2.1.2.1 ≠ [] then 2 else if termW l.2.2.2.1 = 0 then termW l.2.2.2.2.1 else termW l.2.2.2.1
def litW (l : Literal) : Int := if l.1 = 1 ∨ l.1 = 2 then (if l.2.2.1 = 0 ∧ zeroB l.2.2.2.1 = true ∧ zeroB l.2.2.2.2.1 = true then atomW l.2.1 else 2) else if l.1 = 3 then testW l else 2
def clauseW (c : Clause) : Int := if atomW c.1 = 0 then (if 16 < c.2.length then 23 else firstW litW c.2) else atomW c.1
def wellW (p : List Clause) : Int := if 512 < p.length then 24 else firstW clauseW p
end Edict
namespace Go.Proofs.Ytkobamedfbgjbaa
open Go Go.Ev Edict
theorem mlen : maxLen = 9223372036854775807 := rfl
def C_data {α : Type} [Rep α] (f : α → Value) (vs : List Value) (h : H) (K : Value → H → Prop) : Prop := ∃ (u : U) (a : α) (l : List Value), vs = [.agg l.toArray] ∧ Rep.rep u h a l ∧ Rep.wf a ∧ ∀ u' h', Step S0 u h u' h' → K (f a) h'
def vI {α : Type} (f : α → Int) : α → Value := fun a => .int .i64 (f a)
def vB {α : Type} (f : α → Bool) : α → Value := fun a => .bool (f a)
def G_symValid : Ctr := fun f vs h K _ => (f = 70 ∧ C_str nameB vs h K)
theorem G_symValid_ok : GOk Try.prog G_symValid := by
  rintro f vs h K KP (⟨rfl, hC⟩)
  exact symIsName_ok hC
theorem symValid_ok {vs : List Value} {h : H} {K : Value → H → Prop} {KP : List PanicEntry → H → Prop} (hC : C_data (vB validB) vs h K) : HCX Try.prog 81 vs h K KP := by
  obtain ⟨u, ⟨kk, ki, ks⟩, l, rfl, hr, ⟨-, -, hs⟩, hK⟩ := hC
  have hs' : ks.length ≤ 9223372036854775807 := hs
  rw [rep_const] at hr
  subst hr
  simp only [vB, validB] at hK
  refine symValid_H G_symValid G_symValid_ok _ ?_
  by_cases h1 : kk = 1
  · subst h1
    simp only [if_true] at hK
    simp (disch := first | omega | (simp only [zz]; try omega; done)) only [↓reduceIte, go_sem, symValid_S, symValid_E]
    exact hK _ _ (by repeat (first | exact Step.refl _ _ _ | assumption | apply Step.pushR))
  by_cases h2 : kk = 2
  · subst h2
    simp only [show ¬ ((2 : Int) = 1) by decide, if_false, if_true] at hK
    by_cases hi : ki = 0
    · subst hi
      simp only [decide_true, Bool.true_and] at hK
      simp (disch := first | omega | (simp only [zz]; try omega; done)) only [↓reduceIte, go_sem, symValid_S, symValid_E]
      refine effS_call ⟨rfl, ub u h.size 0, ks, rfl, hs', fun u2 h2 s2 => ⟨by simp (disch := first | omega | (simp only [zz]; try omega; done)) only [go_sem], ?_⟩⟩
      simp (disch := first | omega | (simp only [zz]; try omega; done)) only [↓reduceIte, go_sem]
      exact hK _ _ (Step.trans0 (by repeat (first | exact Step.refl _ _ _ | assumption | apply Step.pushR)) s2)
    · rw [decide_eq_false hi] at hK
      simp (disch := first | omega | (simp only [zz]; try omega; done)) only [↓reduceIte, go_sem, symValid_S, symValid_E, eq_false hi]
      exact hK _ _ (by repeat (first | exact Step.refl _ _ _ | assumption | apply Step.pushR))
  by_cases h3 : kk = 3
  · subst h3
    simp only [show ¬ ((3 : Int) = 1) by decide, show ¬ ((3 : Int) = 2) by decide, if_false, if_true] at hK
    have e : decide ((ks.length : Int) ≤ 255) = decide (ks.length ≤ 255) := by
      by_cases q : ks.length ≤ 255
      · rw [decide_eq_true q, decide_eq_true (by omega)]
      · rw [decide_eq_false q, decide_eq_false (by omega)]
    simp (disch := first | omega | (simp only [zz]; try omega; done)) only [↓reduceIte, go_sem, symValid_S, symValid_E, e]
    exact hK _ _ (by repeat (first | exact Step.refl _ _ _ | assumption | apply Step.pushR))
  · simp only [eq_false h1, eq_false h2, eq_false h3, if_false] at hK
    simp (disch := first | omega | (simp only [zz]; try omega; done)) only [↓reduceIte, go_sem, symValid_S, symValid_E, eq_false h1, eq_false h2, eq_false h3]
    exact hK _ _ (by repeat (first | exact Step.refl _ _ _ | assumption | apply Step.pushR))
def C_constant (vs : List Value) (h : H) (K : Value → H → Prop) : Prop := ∃ (u : U) (t : Term), vs = [.agg (Term.enc t).toArray] ∧ ∀ u' h', Step S0 u h u' h' → K (.agg #[.int .i64 t.1, .int .i64 t.2.1, str t.2.2.1]) h'
theorem prConstant_ok {vs : List Value} {h : H} {K : Value → H → Prop} {KP : List PanicEntry → H → Prop} (hC : C_constant vs h K) : HCX Try.prog 79 vs h K KP := by
  obtain ⟨u, t, rfl, hK⟩ := hC
  refine prConstant_H (fun _ _ _ _ _ => False) (fun _ _ _ _ _ h => h.elim) _ ?_
  simp (disch := first | omega | (simp only [zz]; try omega; done)) only [↓reduceIte, go_sem, prConstant_S, prConstant_E, Term.enc]
  exact hK _ _ (by repeat (first | exact Step.refl _ _ _ | assumption | apply Step.pushR))
def G_prWellConst : Ctr := fun f vs h K _ => (f = 81 ∧ C_data (vB validB) vs h K)
theorem G_prWellConst_ok : GOk Try.prog G_prWellConst := by
  rintro f vs h K KP (⟨rfl, hC⟩)
  exact symValid_ok hC
theorem prWellConst_ok {vs : List Value} {h : H} {K : Value → H → Prop} {KP : List PanicEntry → H → Prop} (hC : C_data (vI constW) vs h K) : HCX Try.prog 78 vs h K KP := by
  obtain ⟨u, k, l, rfl, hr, hw, hK⟩ := hC
  have hr' := hr
  rw [rep_const] at hr
  subst hr
  simp only [vI, constW] at hK
  refine prWellConst_H G_prWellConst G_prWellConst_ok _ ?_
  simp (disch := first | omega | (simp only [zz]; try omega; done)) only [↓reduceIte, go_sem, prWellConst_S, prWellConst_E]
  refine effS_call ⟨rfl, _, k, _, rfl, Rep.mono (Step.ge (S := S0) (by repeat (first | exact Step.refl _ _ _ | assumption | apply Step.pushR))) hr', hw, fun u2 h2 s2 => ⟨by simp (disch := first | omega | (simp only [zz]; try omega; done)) only [go_sem], ?_⟩⟩
  simp only [vB]
  have s02 := Step.trans0 (S := S0) (u := u) (h := h) (by repeat (first | exact Step.refl _ _ _ | assumption | apply Step.pushR)) s2
  cases hv : validB k with
  | true => rw [hv] at hK; simp (disch := first | omega | (simp only [zz]; try omega; done)) only [↓reduceIte, go_sem]; exact hK _ _ s02
  | false => rw [hv] at hK; simp (disch := first | omega | (simp only [zz]; try omega; done)) only [↓reduceIte, go_sem]; exact hK _ _ s02
def G_prWellTerm : Ctr := fun f vs h K _ => (f = 77 ∧ C_str varB vs h K) ∨ (f = 79 ∧ C_constant vs h K) ∨ (f = 78 ∧ C_data (vI constW) vs h K)
theorem G_prWellTerm_ok : GOk Try.prog G_prWellTerm := by
  rintro f vs h K KP (⟨rfl, hC⟩ | ⟨rfl, hC⟩ | ⟨rfl, hC⟩)
  · exact symIsVar_ok hC
  · exact prConstant_ok hC
  · exact prWellConst_ok hC
theorem prWellTerm_ok {vs : List Value} {h : H} {K : Value → H → Prop} {KP : List PanicEntry → H → Prop} (hC : C_data (vI termW) vs h K) : HCX Try.prog 72 vs h K KP := by
  obtain ⟨u, ⟨tk, ti, ts, to⟩, l, rfl, hr, ⟨⟨w1, w2⟩, ⟨w3, w4⟩, hs, ⟨w5, w6⟩⟩, hK⟩ := hC
  have hs' : ts.length ≤ 9223372036854775807 := hs
  rw [rep_term] at hr
  subst hr
  simp only [vI, termW] at hK
  refine prWellTerm_H G_prWellTerm G_prWellTerm_ok _ ?_
  by_cases h4 : tk = 4
  · subst h4
    simp only [if_true] at hK
    by_cases hi : ti = 0
    · subst hi
      simp only [true_and] at hK
      simp (disch := first | omega | (simp only [zz]; try omega; done)) only [↓reduceIte, go_sem, prWellTerm_S, prWellTerm_E, Term.enc]
      refine effS_call (.inl ⟨rfl, ub u h.size 0, ts, rfl, hs', fun u2 h2 s2 => ⟨by simp (disch := first | omega | (simp only [zz]; try omega; done)) only [go_sem], ?_⟩⟩)
      have s02 := Step.trans0 (S := S0) (u := u) (h := h) (by repeat (first | exact Step.refl _ _ _ | assumption | apply Step.pushR)) s2
      cases hv : varB ts with
      | true => rw [hv] at hK; simp (disch := first | omega | (simp only [zz]; try omega; done)) only [↓reduceIte, go_sem]; exact hK _ _ s02
      | false => rw [hv] at hK; simp (disch := first | omega | (simp only [zz]; try omega; done)) only [↓reduceIte, go_sem]; exact hK _ _ s02
    · simp only [eq_false hi, false_and, if_false] at hK
      simp (disch := first | omega | (simp only [zz]; try omega; done)) only [↓reduceIte, go_sem, prWellTerm_S, prWellTerm_E, Term.enc, eq_false hi]
      exact hK _ _ (by repeat (first | exact Step.refl _ _ _ | assumption | apply Step.pushR))
  · simp only [eq_false h4, if_false] at hK
    simp (disch := first | omega | (simp only [zz]; try omega; done)) only [↓reduceIte, go_sem, prWellTerm_S, prWellTerm_E, Term.enc, eq_false h4]
    refine effS_call (.inr (.inl ⟨rfl, ub u h.size 0, (tk, ti, ts, to), rfl, fun u2 h2 s2 => ⟨by simp (disch := first | omega | (simp only [zz]; try omega; done)) only [go_sem], ?_⟩⟩))
    have s02 := Step.trans0 (S := S0) (u := u) (h := h) (by repeat (first | exact Step.refl _ _ _ | assumption | apply Step.pushR)) s2
    simp (disch := first | omega | (simp only [zz]; try omega; done)) only [↓reduceIte, go_sem]
    refine effS_call (.inr (.inr ⟨rfl, u2, (tk, ti, ts), _, rfl, by rw [rep_const], ⟨⟨w1, w2⟩, ⟨w3, w4⟩, hs⟩, fun u3 h3 s3 => ⟨by simp (disch := first | omega | (simp only [zz]; try omega; done)) only [go_sem], ?_⟩⟩))
    simp (disch := first | omega | (simp only [zz]; try omega; done)) only [↓reduceIte, go_sem, vI]
    exact hK _ _ (s02.trans0 s3)
theorem prBare_ok {vs : List Value} {h : H} {K : Value → H → Prop} {KP : List PanicEntry → H → Prop} (hC : C_data (vB zeroB) vs h K) : HCX Try.prog 73 vs h K KP := by
  obtain ⟨u, t, l, rfl, hr, -, hK⟩ := hC
  rw [rep_term] at hr
  subst hr
  simp only [vB, zeroB] at hK
  refine prBare_H (fun _ _ _ _ _ => False) (fun _ _ _ _ _ h => h.elim) _ ?_
  simp (disch := first | omega | (simp only [zz]; try omega; done)) only [↓reduceIte, go_sem, prBare_S, prBare_E, Term.enc]
  rw [Bool.and_assoc] at hK
  exact hK _ _ (by repeat (first | exact Step.refl _ _ _ | assumption | apply Step.pushR))

end Go.Proofs.Ytkobamedfbgjbaa
end Merged
