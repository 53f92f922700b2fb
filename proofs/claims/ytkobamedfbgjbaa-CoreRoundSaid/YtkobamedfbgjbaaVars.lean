import Derived.Test.YtkobamedfbgjbaaBack
import Derived.Test.YtkobamedfbgjbaaKvS
import Derived.Test.YtkobamedfbgjbaaEvE
import Derived.Test.YtkobamedfbgjbaaClauseS
section Merged
namespace Edict
def litB (k : Int) (ps : List Pred) (cs : List Const) (vars : List (List UInt8)) (p : Pattern) : Option Literal := (atomB ps cs vars p).map fun a => (k, a, 0, (0, 0, [], 0), (0, 0, [], 0), 0)
def testB (cs : List Const) (vars : List (List UInt8)) (t : Test) : Option Literal := (termB cs vars t.2.1).bind fun a => (termB cs vars t.2.2).map fun b => (3, ([], [], 0), t.1, a, b, 0)
def partsB (ps : List Pred) (cs : List Const) (r : Rule) : List (Option Literal) :=
  r.2.1.map (litB 1 ps cs r.2.2.2.2.1) ++ (r.2.2.1.map (testB cs r.2.2.2.2.1) ++ r.2.2.2.1.map (litB 2 ps cs r.2.2.2.2.1))
def ruleB (ps : List Pred) (cs : List Const) (r : Rule) : Clause × Int := match atomB ps cs r.2.2.2.2.1 r.1, mapS id (partsB ps cs r) with
  | some a, some b => ((a, b), 0)
  | _, _ => ((([], [], 0), []), 2)
def backB (ps : List Pred) (cs : List Const) (rules : List Rule) (rule : Int) : Clause × Int := match at? rules rule with
  | none => ((([], [], 0), []), 50)
  | some r => ruleB ps cs r
theorem parts_pos {ps : List Pred} {cs : List Const} {r : Rule} {i : Nat} {p : Pattern} (h : r.2.1[i]? = some p) : (partsB ps cs r)[i]? = some (litB 1 ps cs r.2.2.2.2.1 p) := by
  have hi := (List.getElem?_eq_some_iff.1 h).1
  unfold partsB; rw [List.getElem?_append_left (by simpa using hi), List.getElem?_map, h]; rfl
theorem parts_test {ps : List Pred} {cs : List Const} {r : Rule} {i : Nat} {p : Test} (h : r.2.2.1[i]? = some p) : (partsB ps cs r)[r.2.1.length + i]? = some (testB cs r.2.2.2.2.1 p) := by
  have hi := (List.getElem?_eq_some_iff.1 h).1
  unfold partsB; rw [List.getElem?_append_right (by simp), List.length_map, Nat.add_sub_cancel_left, List.getElem?_append_left (by simpa using hi), List.getElem?_map, h]; rfl
theorem parts_neg {ps : List Pred} {cs : List Const} {r : Rule} {i : Nat} {p : Pattern} (h : r.2.2.2.1[i]? = some p) : (partsB ps cs r)[r.2.1.length + r.2.2.1.length + i]? = some (litB 2 ps cs r.2.2.2.2.1 p) := by
  unfold partsB; rw [Nat.add_assoc, List.getElem?_append_right (by simp), List.length_map, Nat.add_sub_cancel_left, List.getElem?_append_right (by simp), List.length_map, Nat.add_sub_cancel_left, List.getElem?_map, h]; rfl
theorem parts_len {ps : List Pred} {cs : List Const} {r : Rule} : (partsB ps cs r).length = r.2.1.length + r.2.2.1.length + r.2.2.2.1.length := by simp [partsB, Nat.add_assoc]
def GR (good : Bool) (head : Option Atom) (parts : List (Option Literal)) (j : Nat) (body : List Literal) : Prop :=
  (good = true → head.isSome = true ∧ mapS id (parts.take j) = some body) ∧ (good = false → head = none ∨ mapS id parts = none)
theorem GR.next {head : Option Atom} {parts : List (Option Literal)} {j : Nat} {body : List Literal} {x : Option Literal} {d : Literal} (g : GR true head parts j body) (hx : parts[j]? = some x) (hd : ∀ y, x = some y → d = y) : GR x.isSome head parts (j + 1) (body ++ [d]) := by
  obtain ⟨g1, g2⟩ := g.1 rfl
  cases x with
  | none => exact ⟨fun h => (by cases h), fun _ => .inr (mapS_none (i := j + 1) (by rw [mapS_snoc hx, g2]; rfl))⟩
  | some y =>
    rw [hd y rfl]
    exact ⟨fun _ => ⟨g1, by rw [mapS_snoc hx, g2]; rfl⟩, fun h => (by cases h)⟩
theorem GR.done {good : Bool} {ps : List Pred} {cs : List Const} {r : Rule} {body : List Literal} {j : Nat} (hj : good = true → j = (partsB ps cs r).length) (g : GR good (atomB ps cs r.2.2.2.2.1 r.1) (partsB ps cs r) j body) :
    ruleB ps cs r = if good then (((atomB ps cs r.2.2.2.2.1 r.1).getD ([], [], 0), body), 0) else ((([], [], 0), []), 2) := by
  unfold ruleB
  cases good with
  | true =>
    obtain ⟨g1, g2⟩ := g.1 rfl
    rw [hj rfl, List.take_length] at g2
    obtain ⟨a, ha⟩ := Option.isSome_iff_exists.1 g1
    rw [ha, g2]; rfl
  | false =>
    rcases g.2 rfl with h | h
    · rw [h]; rfl
    · rw [h]; cases atomB ps cs r.2.2.2.2.1 r.1 <;> rfl
end Edict
namespace Go.Proofs.Ytkobamedfbgjbaa
open Go Go.Ev Edict

structure BackI (k q : Nat) (u0 : U) (h0 : H) (rc cc : List Value) (a : Atom) (u : U) (h : H) (bv : Value) (body : List Literal) : Prop where
  st : Step S0 u0 h0 u h
  b0 : Blk u h k cc
  b1 : Blk u h (k + 1) [str [], .slice none 0 0, .int .i64 0, .slice none 0 0]
  b2 : Blk u h (k + 1 + 1) rc
  bq : ∃ av, Blk u h q [str a.1, av, .int .i64 a.2.2, bv] ∧ IsSl u h av a.2.1
  ho : Own (q + 1) u h bv body
  hk : h0.size ≤ k
  hq : k + 3 ≤ q
  hs : q + 1 ≤ h.size
theorem BackI.step {S : Nat → Prop} {k q : Nat} {u0 : U} {h0 : H} {rc cc : List Value} {a : Atom} {u u' : U} {h h' : H} {bv : Value} {body : List Literal} (b : BackI k q u0 h0 rc cc a u h bv body) (s : Step S u h u' h')
    (hS : ∀ i, S i → i ≠ k ∧ i ≠ k + 1 ∧ i ≠ k + 1 + 1 ∧ i ≠ q ∧ h0.size ≤ i ∧ ¬ OwnB bv i) : BackI k q u0 h0 rc cc a u' h' bv body := by
  obtain ⟨av, q1, q2⟩ := b.bq
  exact ⟨b.st.trans s (fun i hi h => by have := hS i h; omega), b.b0.step s (fun h => (hS _ h).1 rfl), b.b1.step s (fun h => (hS _ h).2.1 rfl), b.b2.step s (fun h => (hS _ h).2.2.1 rfl), ⟨av, q1.step s (fun h => (hS _ h).2.2.2.1 rfl), q2.mono s.ge⟩,
    b.ho.step s (fun i hi h => (hS i h).2.2.2.2.2 hi), b.hk, b.hq, Nat.le_trans b.hs s.ge.sz⟩
theorem BackI.step0 {k q : Nat} {u0 : U} {h0 : H} {rc cc : List Value} {a : Atom} {u u' : U} {h h' : H} {bv : Value} {body : List Literal} (b : BackI k q u0 h0 rc cc a u h bv body) (s : Step S0 u h u' h') : BackI k q u0 h0 rc cc a u' h' bv body := b.step s (fun _ h => h.elim)

theorem BackI.new {k q : Nat} {u0 : U} {h0 : H} {rc cc : List Value} {a : Atom} {u u' : U} {h h' : H} {bv : Value} {body : List Literal} {p : Nat} {l : List Value} (b : BackI k q u0 h0 rc cc a u h bv body) (s : Step S0 u h u' h') (hp : h.size ≤ p) (hu : u' p = 0) (hl : l.length ≤ hsz h' p) :
    BackI k q u0 h0 rc cc a u' (hsets h' p 0 l) bv body := by
  have hk := b.hk
  have hq := b.hq
  have hs := b.hs
  exact (b.step0 s).step (Step.sets (S := fun i => i = p) u' h' l rfl (by omega) (by omega)) (fun i e => by
    subst e
    refine ⟨by omega, by omega, by omega, by omega, by omega, fun ho => ?_⟩
    have := b.ho.lt ho
    omega)
theorem GR.any {head : Option Atom} {parts : List (Option Literal)} {j j' : Nat} {body body' : List Literal} (g : GR false head parts j body) : GR false head parts j' body' := ⟨fun h => (by cases h), g.2⟩
theorem BackI.app {k q : Nat} {u0 : U} {h0 : H} {rc cc : List Value} {a : Atom} {u u' : U} {h h' : H} {bv bw : Value} {body : List Literal} {x : Literal} (b : BackI k q u0 h0 rc cc a u h bv body) (s : Step (OwnB bv) u h u' h') (o : Own (q + 1) u' h' bw (body ++ [x])) :
    BackI k q u0 h0 rc cc a u' (hset h' q 3 bw) bw (body ++ [x]) := by
  obtain ⟨av, q1, q2⟩ := b.bq
  have hne : ∀ i, OwnB bv i → q + 1 ≤ i := fun i hi => b.ho.ge hi
  have hq := b.hq
  have hk := b.hk
  have c0 := b.b0.step s (fun h => by have := hne _ h; omega)
  have c1 := b.b1.step s (fun h => by have := hne _ h; omega)
  have c2 := b.b2.step s (fun h => by have := hne _ h; omega)
  have cq := q1.step s (fun h => by have := hne _ h; omega)
  have s4 : Step (fun i => i = q) u' h' u' (hset h' q 3 bw) := Step.set u' h' _ rfl (by rw [cq.2.2.2.1]; exact Nat.zero_le _)
  exact ⟨(b.st.trans s (fun i hi h => by have := hne _ h; omega)).trans s4 (fun i hi e => by omega), c0.step s4 (by omega), c1.step s4 (by omega), c2.step s4 (by omega), ⟨av, cq.set (i := 3) (by simp), (q2.mono s.ge).mono s4.ge⟩,
    o.step s4 (fun i hi e => by have := o.ge hi; omega), hk, hq, by rw [e_ssz]; exact Nat.le_trans b.hs s.ge.sz⟩

def LenR (r : Rule) : Prop := r.1.2.length ≤ 1048576 ∧ r.2.1.length ≤ 1048576 ∧ r.2.2.1.length ≤ 1048576 ∧ r.2.2.2.1.length ≤ 1048576 ∧ (∀ p ∈ r.2.1, p.2.length ≤ 1048576) ∧ (∀ p ∈ r.2.2.2.1, p.2.length ≤ 1048576)
def C_back (vs : List Value) (h : H) (K : Value → H → Prop) : Prop :=
  ∃ (u : U) (c0 c1 c2 c3 : Value) (rule : Int) (ps : List Pred) (cs : List Const) (rules : List Rule), vs = [.agg #[c0, c1, c2, c3], .int .i64 rule] ∧ IsSl u h c0 ps ∧ IsSl u h c1 cs ∧ IsSl u h c2 rules ∧ (∀ r ∈ rules, LenR r) ∧
    ∀ u' h' l, Step S0 u h u' h' → Rep.rep u' h' (backB ps cs rules rule).1 l → K (.tuple #[.agg l.toArray, .int .i64 (backB ps cs rules rule).2]) h'
end Go.Proofs.Ytkobamedfbgjbaa
end Merged
section Merged
section Merged
namespace Go.Ev
open Go
theorem wr32u {n : Int} (h1 : 0 ≤ n) (h2 : n ≤ 4294967295) : IntKind.u32.wrap n = n := by
  show n % 4294967296 = n
  omega
theorem wr64u {n : Int} (h1 : 0 ≤ n) (h2 : n ≤ 18446744073709551615) : IntKind.u64.wrap n = n := by
  show n % 18446744073709551616 = n
  omega
theorem tmodn {a b : Int} (h : 0 ≤ a) : a.tmod b = a % b := Int.tmod_eq_emod_of_nonneg h
theorem tdivn {a b : Int} (h : 0 ≤ a) : a.tdiv b = a / b := Int.tdiv_eq_ediv_of_nonneg h
def Byt (h : H) (b n : Nat) : Prop := hsz h b = n ∧ hfr h b = (0, 0) ∧ ∀ i, i < n → ∃ x : UInt8, Go.Ev.hv h b i = .int .u8 x.toNat
theorem Byt.set {h : H} {b n o : Nat} {x : UInt8} (k : Byt h b n) : Byt (hset h b o (.int .u8 x.toNat)) b n := by
  obtain ⟨k1, k2, k3⟩ := k
  refine ⟨by rw [hset_sz]; exact k1, by rw [hset_fr]; exact k2, fun i hi => ?_⟩
  by_cases e : i = o
  · subst e
    refine ⟨x, ?_⟩
    unfold Go.Ev.hv hc
    rw [hset_get, if_pos rfl]
    unfold hsz at k1
    cases hx : h[b]? with
    | none => rw [hx] at k1; simp at k1; omega
    | some o =>
      rw [hx] at k1
      cases o with
      | cells c t f => simp only at k1; simp [k1, hi]
      | _ => simp at k1; omega
  · rw [hset_hv (.inr e)]; exact k3 i hi
theorem Byt.setw {h : H} {b n o : Nat} {z : Int} (k : Byt h b n) : Byt (hset h b o (.int .u8 (IntKind.u8.wrap z))) b n := by
  have e : IntKind.u8.wrap z = ((UInt8.ofNat (z % 256).toNat).toNat : Int) := by
    have : IntKind.u8.wrap z = z % 256 := rfl
    rw [this, UInt8.toNat_ofNat']
    omega
  rw [e]; exact k.set
end Go.Ev
namespace Go.Proofs.Ytkobamedfbgjbaa
open Go Go.Ev
theorem l0_len : KvS_l0.length = 200 := by kernel_rfl
def C_b10 (vs : List Value) (h : H) (K : Value → H → Prop) : Prop := ∃ (u : U) (b o n c : Nat) (x : Int) (N : Nat), vs = [.slice (some ⟨b, o, none⟩) n c, .int .u64 x] ∧ 0 ≤ x ∧ x ≤ 18446744073709551615 ∧ n ≤ 20 ∧ Byt h b N ∧ o + n ≤ N ∧ u b = 0 ∧
  ∀ h', Step (fun i => i = b) u h u h' → Byt h' b N → K (.tuple #[]) h'
set_option maxHeartbeats 1000000 in
theorem cvBase10_ok {vs : List Value} {h : H} {K : Value → H → Prop} {KP : List PanicEntry → H → Prop} (hC : C_b10 vs h K) : HCX Try.prog 118 vs h K KP := by
  obtain ⟨u, b, o, n, c, x, N, rfl, hx0, hx1, hn, hB, hN, hu, hK⟩ := hC
  refine cvBase10_H (fun _ _ _ _ _ => False) (fun _ _ _ _ _ h => h.elim) _ _ ?_
  simp (disch := first | omega | (simp only [zz]; try omega; done)) only [↓reduceIte, go_sem, cvBase10_S, cvBase10_E]
  obtain ⟨I, hI⟩ : ∃ I : Nat → Env → H → Prop, I = fun m σ h' => σ 0 = .slice (some ⟨b, o, none⟩) n c ∧ σ 4 = .int .i64 m ∧ m ≤ n ∧ (∃ y : Int, σ 1 = .int .u64 y ∧ 0 ≤ y ∧ y ≤ 18446744073709551615) ∧ Step (fun i => i = b) u h u h' ∧ Byt h' b N := ⟨_, rfl⟩
  refine wpS_loop I (fun m => m) n (by rw [hI]; exact ⟨by simp [upd], by simp [upd], Nat.le_refl _, ⟨x, by simp [upd], hx0, hx1⟩, .refl _ _ _, hB⟩) ?_
  intro m σ h' hy
  rw [hI] at hy
  obtain ⟨e0, e4, hm, ⟨y, e1, hy0, hy1⟩, st, hB'⟩ := hy
  have hz := hB'.1
  have hf := hB'.2.1
  have fin : ∀ (σ' : Env) (h2 : H) (m' : Nat) (y' : Int), σ' 0 = .slice (some ⟨b, o, none⟩) n c → σ' 4 = .int .i64 m' → σ' 1 = .int .u64 y' → 0 ≤ y' → y' ≤ 18446744073709551615 → m' < m → Step (fun i => i = b) u h u h2 → Byt h2 b N → ∃ z, I z σ' h2 ∧ z < m := fun σ' h2 m' y' q0 q4 q1 q2 q3 q5 q6 q7 => ⟨m', by rw [hI]; exact ⟨q0, q4, by omega, ⟨y', q1, q2, q3⟩, q6, q7⟩, q5⟩
  by_cases h8 : 8 ≤ m
  · simp (disch := first | omega | (simp only [zz]; try omega; done)) only [↓reduceIte, go_sem, cvBase10_L1, e0, e1, e4, tmodn, tdivn, wr32u, wr64u, hz, hf, l0_len]
    refine ⟨fun _ => ?_, fun hn => absurd (show (8 : Int) ≤ m by omega) hn⟩
    repeat (refine And.intro (by omega) ?_)
    refine fin _ _ (m - 8) (y / 100000000) ?_ ?_ ?_ (by omega) (by omega) (by omega) ?_ ?_
    · simp [upd, e0]
    · simp [upd]; omega
    · simp [upd]
    · repeat (refine Step.setR ?_ (.inr rfl) (by rw [hu]; exact Nat.zero_le _))
      exact st
    · repeat (refine Byt.set ?_)
      exact hB'
  · obtain ⟨w, hw⟩ : ∃ w, IntKind.u32.wrap y = w := ⟨_, rfl⟩
    have hw0 : 0 ≤ w ∧ w ≤ 4294967295 := by
      have : IntKind.u32.wrap y = y % 4294967296 := rfl
      omega
    simp (disch := first | omega | (simp only [zz]; try omega; done)) only [↓reduceIte, go_sem, cvBase10_L1, e0, e1, e4, eq_false (show ¬ (8 : Int) ≤ m by omega), hw, tmodn, tdivn, wr32u, hz, hf, l0_len]
    repeat' (first | (refine And.intro (by omega) ?_) | (refine And.intro (fun _ => ?_) (fun _ => ?_)))
    all_goals (refine hK _ ?_ ?_)
    all_goals (repeat (first | refine Step.setR ?_ (.inr rfl) (by rw [hu]; exact Nat.zero_le _) | with_reducible refine Byt.set ?_ | with_reducible refine Byt.setw ?_))
    all_goals first | exact st | exact hB'
end Go.Proofs.Ytkobamedfbgjbaa
end Merged
section Merged
namespace Edict
abbrev Strs := List (List UInt8)
def varT (vs : Strs) (t : Term) : Strs := if t.1 = 4 ∧ (t.2.2.1 = [95] ∨ t.2.2.1 ∉ vs) then vs ++ [t.2.2.1] else vs
def varL (vs : Strs) (l : Literal) : Strs := if l.1 = 1 then l.2.1.2.1.foldl varT vs else vs
def varsF (ls : List Literal) : Strs := ls.foldl varL []
theorem fold_snoc {α β : Type} {f : β → α → β} {b : β} {l : List α} {i : Nat} {x : α} (h : l[i]? = some x) : (l.take (i + 1)).foldl f b = f ((l.take i).foldl f b) x := by
  rw [List.take_add_one, h, Option.toList_some, List.foldl_append]; rfl
def argN (l : Literal) : Nat := l.2.1.2.1.length
def tot (ls : List Literal) : Nat := (ls.map argN).sum
theorem varT_len (vs : Strs) (t : Term) : (varT vs t).length ≤ vs.length + 1 := by unfold varT; split <;> simp
theorem varsT_len : ∀ (l : List Term) (vs : Strs), (l.foldl varT vs).length ≤ vs.length + l.length
  | [], vs => by simp
  | t :: l, vs => by have := varsT_len l (varT vs t); have := varT_len vs t; simp only [List.foldl_cons, List.length_cons]; omega
theorem varsL_len : ∀ (l : List Literal) (vs : Strs), (l.foldl varL vs).length ≤ vs.length + tot l
  | [], vs => by simp [tot]
  | x :: l, vs => by
    have h1 := varsL_len l (varL vs x)
    have h2 : (varL vs x).length ≤ vs.length + argN x := by
      unfold varL argN; split
      · exact varsT_len _ _
      · omega
    simp only [List.foldl_cons, tot, List.map_cons, List.sum_cons] at h1 ⊢
    omega
theorem tot_take {l : List Literal} {i : Nat} {x : Literal} (h : l[i]? = some x) : tot (l.take i) + argN x ≤ tot l := by
  have e : tot l = tot (l.take i) + tot (l.drop i) := by unfold tot; rw [← List.sum_append_nat, ← List.map_append, List.take_append_drop]
  obtain ⟨hi, rfl⟩ := List.getElem?_eq_some_iff.1 h
  rw [e, List.drop_eq_getElem_cons hi]
  simp only [tot, List.map_cons, List.sum_cons]
  omega
open Go.Ev in
theorem tot_bulk : ∀ l : List Literal, tot l ≤ bulkL l
  | [] => Nat.zero_le _
  | x :: l => by
    have h1 := tot_bulk l
    have h2 := bulkL_pos x.2.1.2.1
    have h3 : Rep.bulk x = 1 + ((x.2.1.1.length + 1 + (bulkL x.2.1.2.1 + 1)) + (1 + (Rep.bulk x.2.2.2.1 + (Rep.bulk x.2.2.2.2.1 + 1)))) := rfl
    simp only [tot, List.map_cons, List.sum_cons, bulkL, argN] at h1 ⊢
    omega
theorem inner_len {l : List Literal} {i j : Nat} {x : Literal} (h : l[i]? = some x) : ((x.2.1.2.1.take j).foldl varT (varsF (l.take i))).length ≤ Go.Ev.bulkL l := by
  have h1 := varsT_len (x.2.1.2.1.take j) (varsF (l.take i))
  have h2 := varsL_len (l.take i) []
  have h3 := tot_take h
  have h4 := tot_bulk l
  have h5 : (x.2.1.2.1.take j).length ≤ argN x := by rw [List.length_take]; exact Nat.min_le_right _ _
  unfold varsF at h1 ⊢
  simp only [List.length_nil] at h2
  omega
end Edict
namespace Go.Proofs.Ytkobamedfbgjbaa
open Go Go.Ev Edict
theorem mlen' : maxLen = 9223372036854775807 := rfl
def C_vars (vs : List Value) (h : H) (K : Value → H → Prop) : Prop := ∃ (u : U) (v : Value) (ls : List Literal), vs = [v] ∧ IsSl u h v ls ∧ bulkL ls ≤ 1048576 ∧ ∀ u' h' w, Step S0 u h u' h' → IsSl u' h' w (varsF ls) → K w h'
end Go.Proofs.Ytkobamedfbgjbaa
end Merged
end Merged
