/- strings.Builder: copyCheck, WriteByte, WriteString, Write, String. -/
import Derived.Test.YteiopegaiohglaaDoorKbL
import Derived.Test.YteiopegaiohglaaDoorShelfG
import Derived.Test.YteiopegaiohglaaDoorPgS
import Derived.Test.YteiopegaiohglaaDoorEvE
namespace Go.Proofs.YteiopegaiohglaaDoor
open Go Go.Ev
abbrev Bu (k : Nat) (u : U) (h : H) (b : Nat) (l : List UInt8) : Prop := Bld 51 5 k u h b l
def C_check (vs : List Value) (h : H) (K : Value → H → Prop) : Prop := ∃ (k : Nat) (u : U) (b : Nat) (l : List UInt8), vs = [.pointer (some ⟨b, 0, none⟩)] ∧ Bu k u h b l ∧
  ∀ h', Step (fun i => i = b) u h u h' → Bu k u h' b l → Go.Ev.hv h' b 1 = Go.Ev.hv h b 1 → K (.tuple #[]) h'
theorem sbCheck_ok {vs : List Value} {h : H} {K : Value → H → Prop} {KP : List PanicEntry → H → Prop} (hC : C_check vs h K) : HCX Tryd.prog 34 vs h K KP := by
  obtain ⟨k, u, b, l, rfl, B, hK⟩ := hC
  refine .inl ⟨by kernel_rfl, fun w hw => ?_⟩
  subst hw
  have hlt := B.lt
  have hB := B
  obtain ⟨p, v, hb, hp, ho, hn, hu, hk, ht⟩ := B
  rcases hp with rfl | rfl
  · have c0 : w.cell? ⟨b, 0, none⟩ = some (.pointer none) := by rw [cell_hc]; unfold hc; rw [hb]; rfl
    have sh : w.shape? b = some (51, 2) := by unfold World.shape?; rw [hb]; rfl
    have fz : w.frozen? ⟨b, 0, none⟩ = false := Lib.frozen_of_heap hb 0
    refine (Any.Builder_copyCheck_fresh Tryd.lays240 Tryd.Builder_X72_240 b w c0 sh fz).mono ?_
    rintro e w' ⟨rfl, rfl⟩
    rw [setCell_heap]
    have sw : Step (fun i => i = b) u w.heap u (hset w.heap b 0 (.pointer (some ⟨b, 0, none⟩))) := Step.set u w.heap _ rfl (by rw [hu]; exact Nat.le_refl _)
    have hget : (hset w.heap b 0 (.pointer (some ⟨b, 0, none⟩)))[b]? = some (.cells #[.pointer (some ⟨b, 0, none⟩), v] 51 (0, 0)) := by
      rw [hset_get, if_pos rfl, hb]; rfl
    refine ⟨⟨rfl, rfl, rfl⟩, hK _ sw ⟨_, v, hget, .inr rfl, @Own.step UInt8 repB8 _ _ _ _ _ _ _ _ ho sw (fun i hi e => hn (by have e : i = b := e; rw [← e]; exact hi)), hn, hu, hk, fun i hi => by rw [hset_typ]; exact ht i hi⟩ (hset_hv (.inr (by decide)))⟩
  · have c0 : w.cell? ⟨b, 0, none⟩ = some (.pointer (some ⟨b, 0, none⟩)) := by rw [cell_hc]; unfold hc; rw [hb]; rfl
    refine (Any.Builder_copyCheck_used Tryd.lays240 Tryd.Builder_X72_240 b w c0).mono ?_
    rintro e w' ⟨rfl, rfl⟩
    exact ⟨⟨rfl, rfl, rfl⟩, hK _ (.refl _ _ _) hB rfl⟩
/-- What the builder's writers do: m is added, and out comes r. -/
def C_add (r : List UInt8 → Value) (vs : List Value) (h : H) (m : List UInt8) (K : Value → H → Prop) : Prop := ∃ (k : Nat) (u : U) (b : Nat) (l : List UInt8), vs.head? = some (.pointer (some ⟨b, 0, none⟩)) ∧ Bu k u h b l ∧ l.length + m.length ≤ 140737488355328 ∧
  ∀ u' h', Step (BldB h b) u h u' h' → Bu k u' h' b (l ++ m) → (∀ i, BldB h' b i → BldB h b i ∨ h.size ≤ i) → K (r m) h'
def C_wbyte (vs : List Value) (h : H) (K : Value → H → Prop) : Prop := ∃ (a : Value) (c : UInt8), vs = [a, .int .u8 c.toNat] ∧ C_add (fun _ => .nilIface) vs h [c] K
def C_wstr (vs : List Value) (h : H) (K : Value → H → Prop) : Prop := ∃ (a : Value) (m : List UInt8), vs = [a, str m] ∧ C_add (fun m => .tuple #[.int .i64 m.length, .nilIface]) vs h m K
def C_write (vs : List Value) (h : H) (K : Value → H → Prop) : Prop := ∃ (k : Nat) (u : U) (b : Nat) (l m : List UInt8) (v : Value), vs = [.pointer (some ⟨b, 0, none⟩), v] ∧ Bu k u h b l ∧ IsSlY u h v m ∧ l.length + m.length ≤ 140737488355328 ∧
  ∀ u' h', Step (BldB h b) u h u' h' → Bu k u' h' b (l ++ m) → (∀ i, BldB h' b i → BldB h b i ∨ h.size ≤ i) → K (.tuple #[.int .i64 m.length, .nilIface]) h'
def G_sb : Ctr := fun f vs h K _ => f = 34 ∧ C_check vs h K
theorem G_sb_ok : GOk Tryd.prog G_sb := by
  rintro f vs h K KP ⟨rfl, hC⟩; exact sbCheck_ok hC
theorem sbWriteString_ok {vs : List Value} {h : H} {K : Value → H → Prop} {KP : List PanicEntry → H → Prop} (hC : C_wstr vs h K) : HCX Tryd.prog 16 vs h K KP := by
  obtain ⟨a, m, rfl, k, u, b, l, ha, B, hl, hK⟩ := hC
  obtain rfl : a = .pointer (some ⟨b, 0, none⟩) := by simpa using ha
  refine sbWriteString_H G_sb G_sb_ok _ _ ?_
  simp (disch := first | omega | (simp only [e_ssz, e_psz, e_hszs, List.length_cons, List.length_nil]; try omega; done)) only [↓reduceIte, go_sem, sbWriteString_S, sbWriteString_E]
  refine effS_call ⟨rfl, k, u, b, l, rfl, B, fun h1 s1 B1 e1 => ⟨by simp (disch := first | omega | (simp only [e_ssz, e_psz, e_hszs, List.length_cons, List.length_nil]; try omega; done)) only [go_sem], ?_⟩⟩
  obtain ⟨z1, z2, z3, ho, hn, hty⟩ := B1.open
  have hlt := B1.lt
  have hkl : k ≤ h1.size := Nat.le_trans (B1.ge (.inl rfl)).1 (Nat.le_of_lt hlt)
  simp (disch := first | omega | (simp only [e_ssz, e_psz, e_hszs, List.length_cons, List.length_nil]; try omega; done)) only [↓reduceIte, go_sem, z1]
  refine apps_typ (own_apps (K := fun v' h' => ∃ u', OwnY k u' h' v' (l ++ m) ∧ Step (OwnB (Go.Ev.hv h1 b 1)) u h1 u' h' ∧ ∀ i, OwnB v' i → OwnB (Go.Ev.hv h1 b 1) i ∨ h1.size ≤ i) ho hkl hl fun v' u' h' o' s' b' => ⟨u', o', s', b'⟩) fun v' h2 hq hT => ?_
  obtain ⟨u2, o2, s2, b2⟩ := hq
  rw [e1] at s2 b2 hT
  obtain ⟨f1, f2, f3⟩ := bld_app B s1 B1 e1 o2 s2 b2 hT
  have y1 : hsz h2 b = 2 := by rw [(s2.ge.hs b hlt).1]; exact z1
  have y2 : hfr h2 b = (0, 0) := by rw [(s2.ge.hs b hlt).2]; exact z2
  refine ⟨by simp (disch := first | omega | (simp only [e_ssz, e_psz, e_hszs, List.length_cons, List.length_nil]; try omega; done)) only [go_sem], ?_⟩
  obtain ⟨a', n', c', rfl⟩ : ∃ a' n' c', v' = .slice a' n' c' := by
    obtain ⟨x, y, hv, -⟩ := @Own.sl UInt8 repB8 _ _ _ _ _ o2
    exact ⟨_, _, _, hv⟩
  simp (disch := first | omega | (simp only [e_ssz, e_psz, e_hszs, List.length_cons, List.length_nil]; try omega; done)) only [↓reduceIte, go_sem, y1, y2]
  exact hK _ _ f1 f2 f3
theorem sbWriteByte_ok {vs : List Value} {h : H} {K : Value → H → Prop} {KP : List PanicEntry → H → Prop} (hC : C_wbyte vs h K) : HCX Tryd.prog 43 vs h K KP := by
  obtain ⟨a, c, rfl, k, u, b, l, ha, B, hl, hK⟩ := hC
  obtain rfl : a = .pointer (some ⟨b, 0, none⟩) := by simpa using ha
  refine sbWriteByte_H G_sb G_sb_ok _ _ ?_
  simp (disch := first | omega | (simp only [e_ssz, e_psz, e_hszs, List.length_cons, List.length_nil]; try omega; done)) only [↓reduceIte, go_sem, sbWriteByte_S, sbWriteByte_E]
  refine effS_call ⟨rfl, k, u, b, l, rfl, B, fun h1 s1 B1 e1 => ⟨by simp (disch := first | omega | (simp only [e_ssz, e_psz, e_hszs, List.length_cons, List.length_nil]; try omega; done)) only [go_sem], ?_⟩⟩
  obtain ⟨z1, z2, z3, ho, hn, hty⟩ := B1.open
  have hlt := B1.lt
  have hkl : k ≤ h1.size := Nat.le_trans (B1.ge (.inl rfl)).1 (Nat.le_of_lt hlt)
  have hin : ∀ i, OwnB (Go.Ev.hv h1 b 1) i → i < h1.size := fun i hi => (B1.ge (.inr hi)).2
  simp (disch := first | omega | (simp only [e_ssz, e_psz, e_hszs, List.length_cons, List.length_nil]; try omega; done)) only [↓reduceIte, go_sem, z1]
  refine app_typ (@own_app1 UInt8 repB8 _ _ 5 _ _ _ [.int .u8 c.toNat] _ u h1 _ l c (fun v' h' => ∃ u', OwnY k u' h' v' (l ++ [c]) ∧ Step (OwnB (Go.Ev.hv h1 b 1)) u h1 u' h' ∧ ∀ i, OwnB v' i → OwnB (Go.Ev.hv h1 b 1) i ∨ h1.size ≤ i) _ ho rfl rfl rfl hkl (by simpa using hl) fun v' u' h' o' s' b' => ⟨u', o', s', b'⟩) fun v' h2 hq hT => ?_
  obtain ⟨u2, o2, s2, b2⟩ := hq
  have hT' : TypP 5 (Go.Ev.hv h1 b 1) h1 v' h2 := fun i hi => (hT i hi).imp id fun ⟨q1, q2⟩ => ⟨q1, by
    rw [q2]; unfold htyp; rw [Array.getElem?_push_lt (hin i q1), Array.getElem?_eq_getElem (hin i q1)]⟩
  rw [e1] at s2 b2 hT'
  obtain ⟨f1, f2, f3⟩ := bld_app B s1 B1 e1 o2 s2 b2 hT'
  have y1 : hsz h2 b = 2 := by rw [(s2.ge.hs b hlt).1]; exact z1
  have y2 : hfr h2 b = (0, 0) := by rw [(s2.ge.hs b hlt).2]; exact z2
  refine ⟨by simp (disch := first | omega | (simp only [e_ssz, e_psz, e_hszs, List.length_cons, List.length_nil]; try omega; done)) only [go_sem], ?_⟩
  obtain ⟨a', n', c', rfl⟩ : ∃ a' n' c', v' = .slice a' n' c' := by
    obtain ⟨x, y, hv, -⟩ := @Own.sl UInt8 repB8 _ _ _ _ _ o2
    exact ⟨_, _, _, hv⟩
  simp (disch := first | omega | (simp only [e_ssz, e_psz, e_hszs, List.length_cons, List.length_nil]; try omega; done)) only [↓reduceIte, go_sem, y1, y2]
  exact hK _ _ f1 f2 f3
theorem sbWrite_ok {vs : List Value} {h : H} {K : Value → H → Prop} {KP : List PanicEntry → H → Prop} (hC : C_write vs h K) : HCX Tryd.prog 113 vs h K KP := by
  obtain ⟨k, u, b, l, m, v, rfl, B, hv, hl, hK⟩ := hC
  refine sbWrite_H G_sb G_sb_ok _ _ ?_
  obtain ⟨va, vc, rfl, -, -⟩ := @IsSl.sl UInt8 repB8 _ _ _ _ hv
  simp (disch := first | omega | (simp only [e_ssz, e_psz, e_hszs, List.length_cons, List.length_nil]; try omega; done)) only [↓reduceIte, go_sem, sbWrite_S, sbWrite_E]
  refine effS_call ⟨rfl, k, u, b, l, rfl, B, fun h1 s1 B1 e1 => ⟨by simp (disch := first | omega | (simp only [e_ssz, e_psz, e_hszs, List.length_cons, List.length_nil]; try omega; done)) only [go_sem], ?_⟩⟩
  obtain ⟨z1, z2, z3, ho, hn, hty⟩ := B1.open
  have hlt := B1.lt
  have hkl : k ≤ h1.size := Nat.le_trans (B1.ge (.inl rfl)).1 (Nat.le_of_lt hlt)
  have hv1 := @IsSl.mono UInt8 repB8 _ _ _ _ _ _ s1.ge hv
  simp (disch := first | omega | (simp only [e_ssz, e_psz, e_hszs, List.length_cons, List.length_nil]; try omega; done)) only [↓reduceIte, go_sem, z1]
  refine app_typ (@own_app UInt8 repB8 _ _ _ _ _ _ u h1 _ _ l m (fun v' h' => ∃ u', OwnY k u' h' v' (l ++ m) ∧ Step (OwnB (Go.Ev.hv h1 b 1)) u h1 u' h' ∧ ∀ i, OwnB v' i → OwnB (Go.Ev.hv h1 b 1) i ∨ h1.size ≤ i) _ ho hv1 rfl rfl hkl (by simpa using hl) fun v' u' h' o' s' b' => ⟨u', o', s', b'⟩) fun v' h2 hq hT => ?_
  obtain ⟨u2, o2, s2, b2⟩ := hq
  rw [e1] at s2 b2 hT
  obtain ⟨f1, f2, f3⟩ := bld_app B s1 B1 e1 o2 s2 b2 hT
  have y1 : hsz h2 b = 2 := by rw [(s2.ge.hs b hlt).1]; exact z1
  have y2 : hfr h2 b = (0, 0) := by rw [(s2.ge.hs b hlt).2]; exact z2
  refine ⟨by simp (disch := first | omega | (simp only [e_ssz, e_psz, e_hszs, List.length_cons, List.length_nil]; try omega; done)) only [go_sem], ?_⟩
  obtain ⟨a', n', c', rfl⟩ : ∃ a' n' c', v' = .slice a' n' c' := by
    obtain ⟨x, y, hv, -⟩ := @Own.sl UInt8 repB8 _ _ _ _ _ o2
    exact ⟨_, _, _, hv⟩
  simp (disch := first | omega | (simp only [e_ssz, e_psz, e_hszs, List.length_cons, List.length_nil]; try omega; done)) only [↓reduceIte, go_sem, y1, y2]
  exact hK _ _ f1 f2 f3
/-- String: what lay below the builder's blocks is as it was. -/
def C_bstring (vs : List Value) (h : H) (K : Value → H → Prop) : Prop := ∃ (k : Nat) (u : U) (b : Nat) (l : List UInt8), vs = [.pointer (some ⟨b, 0, none⟩)] ∧ Bu k u h b l ∧
  ∀ h', h.size ≤ h'.size → (∀ i, i < k → h'[i]? = h[i]?) → K (str l) h'
theorem sbString_ok {vs : List Value} {h : H} {K : Value → H → Prop} {KP : List PanicEntry → H → Prop} (hC : C_bstring vs h K) : HCX Tryd.prog 17 vs h K KP := by
  obtain ⟨k, u, b, l, rfl, B, hK⟩ := hC
  refine .inl ⟨by kernel_rfl, fun w hw => ?_⟩
  subst hw
  refine (Tryd.Builder_String_any k b l w B.kit (Nat.le_trans (B.ge (.inl rfl)).1 (Nat.le_of_lt B.lt))).mono ?_
  rintro e w' ⟨rfl, hB⟩
  exact ⟨⟨hB.os, hB.tape, hB.output⟩, hK _ hB.size hB.block⟩
theorem Step.below {u0 u : U} {h0 h h' : H} (s : Step S0 u0 h0 u h) (hs : h.size ≤ h'.size) (hb : ∀ i, i < h0.size → h'[i]? = h[i]?) : Step S0 u0 h0 u h' := by
  have key : ∀ i, i < h0.size → h'[i]? = h0[i]? ∧ u i = u0 i := fun i hi => by
    obtain ⟨q1, q2⟩ := s.same i hi (fun h => h)
    exact ⟨by rw [hb i hi, q1], q2⟩
  refine ⟨⟨Nat.le_trans s.ge.sz hs, fun i hi => by rw [(key i hi).2]; exact Nat.le_refl _, fun i hi => ?_, fun i hi o _ => ?_⟩, fun i hi _ => key i hi⟩
  · unfold hsz hfr; rw [(key i hi).1]; exact ⟨rfl, rfl⟩
  · unfold Go.Ev.hv hc; rw [(key i hi).1]
/-- A fresh builder. -/
theorem Bu.new (u : U) (h : H) : Bu h.size (ub u h.size 0) (h.push (.cells #[.pointer none, .slice none 0 0] 51)) h.size [] :=
  ⟨_, _, by rw [Array.getElem?_push_size], .inl rfl, .inl ⟨rfl, rfl⟩, ownb_none, ub_self, Nat.le_refl _, fun i hi => absurd hi ownb_none⟩
end Go.Proofs.YteiopegaiohglaaDoor
