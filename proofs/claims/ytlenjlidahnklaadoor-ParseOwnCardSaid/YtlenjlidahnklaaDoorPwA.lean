/- Lists and whose they are: a list with its block's number; all lists of an answer lie in blocks of their own. -/
import Derived.Test.YtlenjlidahnklaaDoorPsF
namespace Go.Ev
open Go Rep Edict
/-! ### Numbers, each once, in a range -/
def Tg (lo hi : Nat) (l : List Nat) : Prop := (∀ n, l.count n ≤ 1) ∧ ∀ n, 0 < l.count n → lo ≤ n ∧ n < hi
theorem Tg.nil (lo hi : Nat) : Tg lo hi [] := ⟨fun _ => by simp, fun n h => by simp at h⟩
theorem Tg.mono {lo hi lo' hi' : Nat} {l : List Nat} (t : Tg lo hi l) (h1 : lo' ≤ lo) (h2 : hi ≤ hi') : Tg lo' hi' l := ⟨t.1, fun n h => by have := t.2 n h; omega⟩
theorem Tg.app {lo mi hi : Nat} {l m : List Nat} (a : Tg lo mi l) (b : Tg mi hi m) (h1 : lo ≤ mi) (h2 : mi ≤ hi) : Tg lo hi (l ++ m) := by
  refine ⟨fun n => ?_, fun n h => ?_⟩
  · rw [List.count_append]
    have a1 := a.1 n; have b1 := b.1 n
    have a2 := a.2 n; have b2 := b.2 n
    omega
  · rw [List.count_append] at h
    have a2 := a.2 n; have b2 := b.2 n
    omega
/-- The block of a slice's value. -/
def vtag : Value → List Nat
  | .slice (some ⟨b, _, none⟩) _ _ => [b]
  | _ => []
theorem vtag_own {v : Value} {b : Nat} : 0 < (vtag v).count b ↔ OwnB v b := by
  constructor
  · intro h
    unfold vtag at h
    split at h
    · rename_i b' o n c
      rw [List.count_singleton] at h
      by_cases e : b' = b
      · subst e; exact ⟨_, _, _, rfl⟩
      · simp [e] at h
    · simp at h
  · rintro ⟨o, n, c, rfl⟩
    simp [vtag]
class HasTags (α : Type) where
  tags : α → List Nat
open HasTags
instance : HasTags Int := ⟨fun _ => []⟩
instance : HasTags (List UInt8) := ⟨fun _ => []⟩
instance {α β : Type} [HasTags α] [HasTags β] : HasTags (α × β) := ⟨fun p => tags p.1 ++ tags p.2⟩
/-- A list, and its block's number, if it has one. -/
structure SlG (α : Type) where
  l : List α
  t : Option Nat
instance {α : Type} [HasTags α] : HasTags (SlG α) := ⟨fun g => g.l.flatMap tags ++ g.t.toList⟩
/-- Its block is its own. -/
def Room (s : Nat) (h : H) (v : Value) (n : Nat) : Option Nat → Prop
  | none => v = .slice none 0 0 ∧ n = 0
  | some b => ∃ c, v = .slice (some ⟨b, 0, none⟩) n c ∧ n ≤ c ∧ c ≤ maxLen ∧ b < h.size ∧ hsz h b = c * s ∧ hfr h b = (0, 0)
instance repSlG {α : Type} [Rep α] : Rep (SlG α) where
  sz := 1
  rep u h g cs := ∃ v, cs = [v] ∧ IsSl u h v g.l ∧ Room (sz α) h v g.l.length g.t ∧ g.l.length ≤ 5000
  wf _ := True
  bulk _ := 1
  szp := Nat.one_pos
  len := fun ⟨v, e, _⟩ => by rw [e]; rfl
  ok := fun ⟨v, e, i, _⟩ => by obtain ⟨a, c, rfl, -⟩ := i.sl; rw [e]; rfl
  mono := fun ge ⟨v, e, i, r, k⟩ => ⟨v, e, i.mono ge, by
    unfold Room at r ⊢
    split
    · rename_i q; rw [q] at r; exact r
    · rename_i q; rw [q] at r
      obtain ⟨c, r1, r2, r3, r4, r5, r6⟩ := r
      exact ⟨c, r1, r2, r3, Nat.lt_of_lt_of_le r4 ge.sz, by rw [(ge.hs _ r4).1]; exact r5, by rw [(ge.hs _ r4).2]; exact r6⟩, k⟩
  pos _ := Nat.le_refl _
theorem rep_slg {α : Type} [Rep α] {u : U} {h : H} {g : SlG α} {cs : List Value} : rep u h g cs = ∃ v, cs = [v] ∧ IsSl u h v g.l ∧ Room (sz α) h v g.l.length g.t ∧ g.l.length ≤ 5000 := rfl
/-- A list that the call has made: its block and all blocks of its elements' lists are new, and no two are the same. -/
structure OwnG {α : Type} [Rep α] [HasTags α] (k : Nat) (u : U) (h : H) (v : Value) (l : List α) : Prop where
  own : Own k u h v l
  tg : Tg k h.size (l.flatMap tags ++ vtag v)
  le : l.length ≤ 5000
section
variable {α : Type} [Rep α] [HasTags α] {k k' : Nat} {S : Nat → Prop} {u u' : U} {h h' : H} {v : Value} {l : List α}
theorem OwnG.nil (k : Nat) (u : U) (h : H) : OwnG k u h (.slice none 0 0) ([] : List α) := ⟨.nil _ _ _, .nil _ _, Nat.zero_le _⟩
theorem OwnG.step (o : OwnG k u h v l) (s : Step S u h u' h') (hn : ∀ b, OwnB v b → ¬ S b) : OwnG k u' h' v l := ⟨o.own.step s hn, o.tg.mono (Nat.le_refl _) s.ge.sz, o.le⟩
theorem OwnG.step0 (o : OwnG k u h v l) (s : Step S0 u h u' h') : OwnG k u' h' v l := o.step s (fun _ _ h => h)
theorem OwnG.mono (o : OwnG k u h v l) (hk : k' ≤ k) : OwnG k' u h v l := ⟨o.own.mono hk, o.tg.mono hk (Nat.le_refl _), o.le⟩
theorem OwnG.sl (o : OwnG k u h v l) : ∃ a c, v = .slice a l.length c ∧ l.length ≤ c ∧ c ≤ maxLen := o.own.sl
theorem OwnG.ge (o : OwnG k u h v l) {b : Nat} (hb : OwnB v b) : k ≤ b := o.own.ge hb
theorem OwnG.isSl (o : OwnG k u h v l) : IsSl u h v l := o.own.isSl
/-- Boxed: a list with its number. -/
theorem OwnG.box (o : OwnG k u h v l) : ∃ g : SlG α, g.l = l ∧ rep u h g [v] ∧ Tg k h.size (tags g) := by
  obtain ⟨o, t, le⟩ := o
  rcases o with ⟨rfl, rfl⟩ | ⟨b, c, rfl, h1, h2, h3, h4, h5, h6, h7, h8⟩
  · exact ⟨⟨[], none⟩, rfl, ⟨_, rfl, .nil _ _, ⟨rfl, rfl⟩, Nat.zero_le _⟩, t⟩
  · exact ⟨⟨l, some b⟩, rfl, ⟨_, rfl, Own.isSl (.inr ⟨b, c, rfl, h1, h2, h3, h4, h5, h6, h7, h8⟩), ⟨c, rfl, h1, h2, h4, h5, h6⟩, le⟩, t⟩
end
theorem Own.toG {α : Type} [Rep α] [HasTags α] {k : Nat} {u : U} {h : H} {v : Value} {l : List α} (o : Own k u h v l) (ht : ∀ x : α, tags x = []) (le : l.length ≤ 5000) : OwnG k u h v l := by
  have e : l.flatMap tags = [] := by
    rw [List.flatMap_eq_nil_iff]; exact fun x _ => ht x
  refine ⟨o, ?_, le⟩
  rw [e, List.nil_append]
  refine ⟨fun n => ?_, fun n hn => ?_⟩
  · unfold vtag
    split
    · rw [List.count_singleton]; split <;> omega
    · simp
  · have := vtag_own.1 hn
    exact ⟨o.ge this, o.lt this⟩
/-- One element more; its lists came behind all the others. -/
theorem effS_app1g {α : Type} [Rep α] [HasTags α] {G : Ctr} {e e' : TypeId} {bytes s : Nat} {z cs : List Value} {k p m : Nat} {u : U} {h : H} {v : Value} {l : List α} {x : α} {d : Option Nat} {st : Stab} {r : List St} {K : Env → H → Prop} {KP : List PanicEntry → H → Prop} {σ : Env}
    (hp : p = h.size) (ho : OwnG k u h v l) (t0 : Tg k m (l.flatMap tags ++ vtag v)) (tx : Tg m h.size (tags x)) (hkm : k ≤ m) (hmh : m ≤ h.size) (hx : rep u h x cs) (hs : s = sz α) (hz : z.length = sz α) (hb : (l.length + 1) * bytes ≤ 140737488355328) (hle : l.length + 1 ≤ 5000)
    (hK : ∀ a n c u' h', OwnG k u' h' (.slice a n c) (l ++ [x]) → Step (OwnB v) u h u' h' → (∀ b, OwnB (.slice a n c) b → OwnB v b ∨ h.size ≤ b) → stabP st σ (h.push (.cells cs.toArray e')) h' ∧ wpSts G r K KP (updo σ d (.slice a n c)) h') :
    effS G (.app e s bytes z) d st r K KP [v, .slice (some ⟨p, 0, none⟩) 1 1] σ (h.push (.cells cs.toArray e')) := by
  refine effS_app1q hp ho.own hx hs hz (Nat.le_trans hkm hmh) hb fun a n c u' h' o' s' b' => hK a n c u' h' ⟨o', ?_, by rw [List.length_append]; exact hle⟩ s' b'
  have hsz := s'.ge.sz
  have e1 : (l ++ [x]).flatMap tags = l.flatMap tags ++ tags x := by rw [List.flatMap_append]; simp
  rw [e1]
  have q0 : ∀ n, (l.flatMap tags).count n + (vtag v).count n ≤ 1 ∧ (0 < (l.flatMap tags).count n + (vtag v).count n → k ≤ n ∧ n < m) := fun n => by
    have h1 := t0.1 n; have h2 := t0.2 n
    rw [List.count_append] at h1 h2
    exact ⟨h1, h2⟩
  have qv : ∀ n, 0 < (vtag (.slice a n c)).count n → True := fun _ _ => trivial
  have q1 : ∀ j, (vtag (.slice a n c)).count j ≤ 1 := fun j => by
    unfold vtag
    split
    · rw [List.count_singleton]; split <;> omega
    · simp
  have q2 : ∀ j, 0 < (vtag (.slice a n c)).count j → (0 < (vtag v).count j ∨ h.size ≤ j) ∧ j < h'.size := fun j hj => by
    have hj' := vtag_own.1 hj
    refine ⟨?_, o'.lt hj'⟩
    rcases b' j hj' with q | q
    · exact .inl (vtag_own.2 q)
    · exact .inr q
  refine ⟨fun j => ?_, fun j hj => ?_⟩
  · rw [List.count_append, List.count_append]
    have a1 := q0 j; have a2 := tx.1 j; have a3 := tx.2 j; have a4 := q1 j; have a5 := q2 j
    omega
  · rw [List.count_append, List.count_append] at hj
    have a1 := q0 j; have a2 := tx.1 j; have a3 := tx.2 j; have a4 := q1 j; have a5 := q2 j
    omega
end Go.Ev
namespace Edict
open Go.Ev
abbrev AtomG := List UInt8 × SlG TermT × Int
abbrev LitG := Int × AtomG × Int × TermT × TermT × Int
abbrev ClauseG := AtomG × SlG LitG
def pA (a : AtomG) : AtomT := (a.1, a.2.1.l, a.2.2)
def pL (x : LitG) : LitT := (x.1, pA x.2.1, x.2.2.1, x.2.2.2.1, x.2.2.2.2.1, x.2.2.2.2.2)
def pC (c : ClauseG) : ClauseT := (pA c.1, c.2.l.map pL)
theorem tags_term (t : TermT) : HasTags.tags t = [] := rfl
theorem tags_const (t : ConstT) : HasTags.tags t = [] := rfl
end Edict
