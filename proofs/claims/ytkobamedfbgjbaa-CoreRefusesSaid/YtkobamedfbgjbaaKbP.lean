import Derived.Test.YtkobamedfbgjbaaKvS
import Derived.Test.YtkobamedfbgjbaaEvE
import Derived.Test.YtkobamedfbgjbaaUnb
import Derived.Test.YtkobamedfbgjbaaWell
section Merged
section Merged
namespace Go.Ev
open Go
theorem wr32u {n : Int} (h1 : 0 ≤ n) (h2 : n ≤ 4294967295) : IntKind.u32.wrap n = n := by
  show n % 4294967296 = n
  omega
theorem wr64u {n : Int} (h1 : 0 ≤ n) (h2 : n ≤ 18446744073709551615) : IntKind.u64.wrap n = n := by
  show n % 18446744073709551616 = n
  omega
theorem tmodn {a b : Int} (h : 0 ≤ a) : a.tmod b = a % b := Int.tmod_eq_emod_of_nonneg h
theorem tdivn {a b : Int} (h : 0 ≤ a) : a.tdiv b = a / b := Int.tdiv_eq_ediv_of_nonneg h
/-- A row of bytes, whichever. -/
def Byt (h : H) (b n : Nat) : Prop := hsz h b = n ∧ hfr h b = (0, 0) ∧ ∀ i, i < n → ∃ x : UInt8, Go.Ev.hv h b i = .int .u8 x.toNat
theorem Byt.set {h : H} {b n o : Nat} {x : UInt8} (k : Byt h b n) : Byt (hset h b o (.int .u8 x.toNat)) b n := by
  obtain ⟨k1, k2, k3⟩ := k
  refine ⟨by rw [hset_sz]; exact k1, by rw [hset_fr]; exact k2, fun i hi => ?_⟩
  by_cases e : i = o
  · subst e
    refine ⟨x, ?_⟩
    unfold Go.Ev.hv hc
    rw [hset_get, if_pos rfl]
    unfold hsz at k1
    cases hx : h[b]? with
    | none => rw [hx] at k1; simp at k1; omega
    | some o =>
      rw [hx] at k1
      cases o with
      | cells c t f => simp only at k1; simp [k1, hi]
      | _ => simp at k1; omega
  · rw [hset_hv (.inr e)]; exact k3 i hi
theorem Byt.setw {h : H} {b n o : Nat} {z : Int} (k : Byt h b n) : Byt (hset h b o (.int .u8 (IntKind.u8.wrap z))) b n := by
  have e : IntKind.u8.wrap z = ((UInt8.ofNat (z % 256).toNat).toNat : Int) := by
    have : IntKind.u8.wrap z = z % 256 := rfl
    rw [this, UInt8.toNat_ofNat']
    omega
  rw [e]; exact k.set
end Go.Ev
namespace Go.Proofs.Ytkobamedfbgjbaa
open Go Go.Ev
theorem l0_len : KvS_l0.length = 200 := by kernel_rfl
def C_b10 (vs : List Value) (h : H) (K : Value → H → Prop) : Prop := ∃ (u : U) (b o n c : Nat) (x : Int) (N : Nat), vs = [.slice (some ⟨b, o, none⟩) n c, .int .u64 x] ∧ 0 ≤ x ∧ x ≤ 18446744073709551615 ∧ n ≤ 20 ∧ Byt h b N ∧ o + n ≤ N ∧ u b = 0 ∧
  ∀ h', Step (fun i => i = b) u h u h' → Byt h' b N → K (.tuple #[]) h'
set_option maxHeartbeats 1000000 in
theorem cvBase10_ok {vs : List Value} {h : H} {K : Value → H → Prop} {KP : List PanicEntry → H → Prop} (hC : C_b10 vs h K) : HCX Try.prog 118 vs h K KP := by
  obtain ⟨u, b, o, n, c, x, N, rfl, hx0, hx1, hn, hB, hN, hu, hK⟩ := hC
  refine cvBase10_H (fun _ _ _ _ _ => False) (fun _ _ _ _ _ h => h.elim) _ _ ?_
  simp (disch := first | omega | (simp only [e_ssz, e_psz, e_hszs, List.length_cons, List.length_nil]; try omega; done)) only [↓reduceIte, go_sem, cvBase10_S, cvBase10_E]
  obtain ⟨I, hI⟩ : ∃ I : Nat → Env → H → Prop, I = fun m σ h' => σ 0 = .slice (some ⟨b, o, none⟩) n c ∧ σ 4 = .int .i64 m ∧ m ≤ n ∧ (∃ y : Int, σ 1 = .int .u64 y ∧ 0 ≤ y ∧ y ≤ 18446744073709551615) ∧ Step (fun i => i = b) u h u h' ∧ Byt h' b N := ⟨_, rfl⟩
  refine wpS_loop I (fun m => m) n (by rw [hI]; exact ⟨by simp [upd], by simp [upd], Nat.le_refl _, ⟨x, by simp [upd], hx0, hx1⟩, .refl _ _ _, hB⟩) ?_
  intro m σ h' hy
  rw [hI] at hy
  obtain ⟨e0, e4, hm, ⟨y, e1, hy0, hy1⟩, st, hB'⟩ := hy
  have hz := hB'.1
  have hf := hB'.2.1
  have fin : ∀ (σ' : Env) (h2 : H) (m' : Nat) (y' : Int), σ' 0 = .slice (some ⟨b, o, none⟩) n c → σ' 4 = .int .i64 m' → σ' 1 = .int .u64 y' → 0 ≤ y' → y' ≤ 18446744073709551615 → m' < m → Step (fun i => i = b) u h u h2 → Byt h2 b N → ∃ z, I z σ' h2 ∧ z < m := fun σ' h2 m' y' q0 q4 q1 q2 q3 q5 q6 q7 => ⟨m', by rw [hI]; exact ⟨q0, q4, by omega, ⟨y', q1, q2, q3⟩, q6, q7⟩, q5⟩
  by_cases h8 : 8 ≤ m
  · simp (disch := first | omega | (simp only [e_ssz, e_psz, e_hszs, List.length_cons, List.length_nil]; try omega; done)) only [↓reduceIte, go_sem, cvBase10_L1, e0, e1, e4, tmodn, tdivn, wr32u, wr64u, hz, hf, l0_len]
    refine ⟨fun _ => ?_, fun hn => absurd (show (8 : Int) ≤ m by omega) hn⟩
    repeat (refine And.intro (by omega) ?_)
    refine fin _ _ (m - 8) (y / 100000000) ?_ ?_ ?_ (by omega) (by omega) (by omega) ?_ ?_
    · simp [upd, e0]
    · simp [upd]; omega
    · simp [upd]
    · repeat (refine Step.setR ?_ (.inr rfl) (by rw [hu]; exact Nat.zero_le _))
      exact st
    · repeat (refine Byt.set ?_)
      exact hB'
  · obtain ⟨w, hw⟩ : ∃ w, IntKind.u32.wrap y = w := ⟨_, rfl⟩
    have hw0 : 0 ≤ w ∧ w ≤ 4294967295 := by
      have : IntKind.u32.wrap y = y % 4294967296 := rfl
      omega
    simp (disch := first | omega | (simp only [e_ssz, e_psz, e_hszs, List.length_cons, List.length_nil]; try omega; done)) only [↓reduceIte, go_sem, cvBase10_L1, e0, e1, e4, eq_false (show ¬ (8 : Int) ≤ m by omega), hw, tmodn, tdivn, wr32u, hz, hf, l0_len]
    repeat' (first | (refine And.intro (by omega) ?_) | (refine And.intro (fun _ => ?_) (fun _ => ?_)))
    all_goals (refine hK _ ?_ ?_)
    all_goals (repeat (first | refine Step.setR ?_ (.inr rfl) (by rw [hu]; exact Nat.zero_le _) | with_reducible refine Byt.set ?_ | with_reducible refine Byt.setw ?_))
    all_goals first | exact st | exact hB'
end Go.Proofs.Ytkobamedfbgjbaa
end Merged
section Merged
namespace Edict
theorem loose_cases (vs : Strs) : ∀ (l : List Term), (∀ t ∈ l, looseB vs t = false) ∨ ∃ (i : Nat) (t : Term), l[i]? = some t ∧ (∀ s ∈ l.take i, looseB vs s = false) ∧ looseB vs t = true
  | [] => .inl (by simp)
  | t :: l => by
    cases hb : looseB vs t with
    | true => exact .inr ⟨0, t, rfl, by simp, hb⟩
    | false =>
      rcases loose_cases vs l with h | ⟨i, s, h1, h2, h3⟩
      · exact .inl fun s hs => by
          rcases List.mem_cons.1 hs with rfl | hs
          · exact hb
          · exact h s hs
      · refine .inr ⟨i + 1, s, by simpa using h1, fun r hr => ?_, h3⟩
        rw [List.take_succ_cons] at hr
        rcases List.mem_cons.1 hr with rfl | hr
        · exact hb
        · exact h2 r hr
end Edict
namespace Go.Proofs.Ytkobamedfbgjbaa
open Go Go.Ev Edict
theorem own_empty {α : Type} [Rep α] (k : Nat) (u : U) (h : H) (hk : k ≤ h.size) (e : TypeId) : Own k (ub u h.size 0) (h.push (.cells #[] e)) (.slice (some ⟨h.size, 0, none⟩) 0 0) ([] : List α) := by
  have := Own.made (α := α) (k := k) u h hk e [] [] (by simp) (Nat.zero_le _) (fun i x hx => by simp at hx)
  simpa using this
def C_unbound (vs : List Value) (h : H) (K : Value → H → Prop) : Prop := ∃ (u : U) (c : Clause) (l : List Value), vs = [.agg l.toArray] ∧ Rep.rep u h c l ∧ Rep.bulk c ≤ 1048576 ∧ ∀ u' h', Step S0 u h u' h' → K (.int .i64 (unboundF c)) h'
def G_crUnbound : Ctr := fun f vs h K _ => (f = 52 ∧ C_lits (fun ls => ls.flatMap askL) vs h K) ∨ (f = 53 ∧ C_unb vs h K)
theorem G_crUnbound_ok : GOk Try.prog G_crUnbound := by
  rintro f vs h K KP (⟨rfl, hC⟩ | ⟨rfl, hC⟩)
  · exact crAsked_ok hC
  · exact crUnb_ok hC
theorem clause_bulk {c : Clause} (hb : Rep.bulk c ≤ 1048576) : bulkL c.2 ≤ 1048576 ∧ c.1.2.1.length ≤ 1048576 ∧ (c.2.flatMap askL).length ≤ 1048576 := by
  have h2 := flat_bulk askL_len c.2
  have h3 : Rep.bulk c = (c.1.1.length + 1 + (bulkL c.1.2.1 + 1)) + bulkL c.2 := rfl
  have h4 := bulkL_pos c.1.2.1
  omega
def C_loose (vs : List Value) (h : H) (K : Value → H → Prop) : Prop := ∃ (u : U) (t : Term) (v : Value) (l : Strs), vs = [.agg (Term.enc t).toArray, v] ∧ IsSl u h v l ∧ ∀ u' h', Step S0 u h u' h' → K (.bool (looseB l t)) h'
def C_looseT (vs : List Value) (h : H) (K : Value → H → Prop) : Prop := ∃ (u : U) (v w : Value) (c : Clause), vs = [v, w] ∧ IsSl u h v c.1.2.1 ∧ IsSl u h w c.2 ∧ Rep.bulk c ≤ 1048576 ∧
  ∀ u' h' (t : Term) (b : Bool), Step S0 u h u' h' → unboundF c = (if b then t.2.2.2 else -1) → K (.tuple #[.agg (Term.enc t).toArray, .bool b]) h'
def C_names (vs : List Value) (h : H) (K : Value → H → Prop) : Prop := ∃ (u : U) (v w : Value) (l : Strs), vs = [v, w] ∧ IsSl u h v l ∧ IsSl u h w l ∧ K (.bool true) h
end Go.Proofs.Ytkobamedfbgjbaa
end Merged
end Merged
section Merged
namespace Edict
/-- The atoms of a body, of a clause; all terms of a clause. -/
def isA (l : Literal) : Bool := decide (l.1 = 1 ∨ l.1 = 2)
def atomsL (ls : List Literal) : List Atom := (ls.filter isA).map (·.2.1)
def atomsC (c : Clause) : List Atom := c.1 :: atomsL c.2
def termsC (c : Clause) : List Term := c.1.2.1 ++ c.2.flatMap termsL
/-- A name's arity so far. -/
def arOf (ps : List Pred) (s : List UInt8) : Option Int := (ps.find? fun p => decide (p.1 = s)).map (·.2)
def clashF : List Pred → List Atom → List Pred × Int × Int
  | ps, [] => (ps, 0, 0)
  | ps, a :: l => match arOf ps a.1 with
    | some n => if n = a.2.1.length then clashF ps l else (ps, 30, a.2.2)
    | none => if 128 ≤ ps.length then (ps, 31, a.2.2) else clashF (ps ++ [(a.1, (a.2.1.length : Int))]) l
/-- The first variable that is one too many. -/
def crowdF : Strs → List Term → Option Term
  | _, [] => none
  | vs, t :: l => if 16 < (varT vs t).length then some t else crowdF (varT vs t) l
def looseO (c : Clause) : Option Term := (allTerms c).find? (looseB (varsF c.2))
def cnst (t : Term) : Const := (t.1, t.2.1, t.2.2.1)
def valT (cs : List Const) (t : Term) : List Const := if t.1 = 4 ∨ cnst t ∈ cs then cs else cs ++ [cnst t]
def valF : List Const → List Term → List Const × Option Term
  | cs, [] => (cs, none)
  | cs, t :: l => if t.1 ≠ 4 ∧ cnst t ∉ cs ∧ 65536 ≤ cs.length then (cs, some t) else valF (valT cs t) l
def namT (ps : List Pred) (a : Atom) : List Pred := if a.1 ∈ ps.map (·.1) then ps else ps ++ [(a.1, (a.2.1.length : Int))]
/-- Where a key stands in a list; what a map of it answers. -/
def posL {κ : Type} [DecidableEq κ] (l : List κ) (s : κ) : Option Int := if s ∈ l then some ((l.idxOf s : Nat) : Int) else none
def idL {κ : Type} [DecidableEq κ] (l : List κ) (s : κ) : Int := (posL l s).getD 0
/-- Where a name stands last. -/
def lastL (l : Strs) (s : List UInt8) : Option Int := if s ∈ l then some (((l.length - 1 - l.reverse.idxOf s : Nat)) : Int) else none
def lastI (l : Strs) (s : List UInt8) : Int := (lastL l s).getD 0
def slotN (cs : List Const) (vs : Strs) (t : Term) : Slot := if t.1 = 4 then (true, lastI vs t.2.2.1) else (false, idL cs (cnst t))
/-- A term of a positive atom, behind which the variables are those of varT. -/
def slotP (cs : List Const) (vs : Strs) (t : Term) : Slot := slotN cs (varT vs t) t
def slotsP (cs : List Const) : Strs → List Term → List Slot
  | _, [] => []
  | vs, t :: l => slotP cs vs t :: slotsP cs (varT vs t) l
def pids (ps : List Pred) (s : List UInt8) : Int := idL (ps.map (·.1)) s
def posF (ps : List Pred) (cs : List Const) : Strs → List Literal → List Pattern
  | _, [] => []
  | vs, l :: r => if l.1 = 1 then (pids ps l.2.1.1, slotsP cs vs l.2.1.2.1) :: posF ps cs (varL vs l) r else posF ps cs vs r
def testF (cs : List Const) (vs : Strs) (l : Literal) : Test := (l.2.2.1, slotN cs vs l.2.2.2.1, slotN cs vs l.2.2.2.2.1)
def patF (ps : List Pred) (cs : List Const) (vs : Strs) (a : Atom) : Pattern := (pids ps a.1, a.2.1.map (slotN cs vs))
def testsF (cs : List Const) (vs : Strs) (ls : List Literal) : List Test := (ls.filter fun l => decide (l.1 = 3)).map (testF cs vs)
def negsF (ps : List Pred) (cs : List Const) (vs : Strs) (ls : List Literal) : List Pattern := (ls.filter fun l => decide (l.1 = 2)).map fun l => patF ps cs vs l.2.1
/-- A rule, its head and its clause's number as they are given. -/
def ruleF (ps : List Pred) (cs : List Const) (hd : Pattern) (n : Int) (ls : List Literal) : Rule := (hd, posF ps cs [] ls, testsF cs (varsF ls) ls, negsF ps cs (varsF ls) ls, varsF ls, n)
def ruleC (ps : List Pred) (cs : List Const) (n : Int) (c : Clause) : Rule := ruleF ps cs (patF ps cs (varsF c.2) c.1) n c.2
def rowF (ps : List Pred) (cs : List Const) (a : Atom) : Row := (pids ps a.1, a.2.1.map fun t => idL cs (cnst t))
/-- A row as a key of nine numbers. -/
def key9 (r : Row) : List Int := (r.1 :: r.2) ++ List.replicate (8 - r.2.length) 0
def factT (l : List Row) (r : Row) : List Row := if key9 r ∈ l.map key9 then l else l ++ [r]
def stepR (ps : List Pred) (cs : List Const) (st : List Rule × List Row) (n : Nat) (c : Clause) : List Rule × List Row :=
  if c.2 = [] then (st.1, factT st.2 (rowF ps cs c.1)) else (st.1 ++ [ruleC ps cs n c], st.2)
def rulesF (ps : List Pred) (cs : List Const) : List Rule × List Row → Nat → List Clause → List Rule × List Row
  | st, _, [] => st
  | st, n, c :: l => rulesF ps cs (stepR ps cs st n c) (n + 1) l
/-- Names and values of clauses, up to the first constant that is too many. -/
def takeF : List Pred × List Const → List Clause → (List Pred × List Const) × Option Term
  | st, [] => (st, none)
  | st, c :: l => match valF st.2 (termsC c) with
    | (cs, none) => takeF ((atomsC c).foldl namT st.1, cs) l
    | (cs, some t) => (((atomsC c).foldl namT st.1, cs), some t)
def takeA : List Const → List Atom → List Const × Option Term
  | cs, [] => (cs, none)
  | cs, a :: l => match valF cs a.2.1 with
    | (cs, none) => takeA cs l
    | (cs, some t) => (cs, some t)
abbrev Flt := Int × Int × Int
def grB (a : Atom) : Bool := decide (atomW a = 0) && a.2.1.all fun t => !decide (t.1 = 4)
def formF (p : List Clause) (fs : List Atom) : Flt :=
  if wellW p ≠ 0 then (wellW p, 0, 0)
  else if 4096 < fs.length then (24, 1, 0)
  else match fs.find? fun a => !grB a with
    | some a => (2, 1, a.2.2)
    | none => match clashF [] (p.flatMap atomsC) with
      | (_, 30, o) => (30, 0, o)
      | (_, 31, o) => (31, 0, o)
      | (ps, _) => match clashF ps fs with
        | (_, 30, o) => (30, 1, o)
        | (_, 31, o) => (31, 1, o)
        | _ => (0, 0, 0)
def boundC (c : Clause) : Flt := match crowdF [] (termsC c) with
  | some t => (32, 0, t.2.2.2)
  | none => match looseO c with
    | some t => (33, 0, t.2.2.2)
    | none => (0, 0, 0)
def boundF : List Clause → Flt
  | [] => (0, 0, 0)
  | c :: l => if boundC c = (0, 0, 0) then boundF l else boundC c
def core0 : Core := ([], [], [], [])
def buildF (p : List Clause) (fs : List Atom) : Core × Flt :=
  if formF p fs ≠ (0, 0, 0) then (core0, formF p fs)
  else if boundF p ≠ (0, 0, 0) then (core0, boundF p)
  else match takeF ([], []) p with
    | (_, some t) => (core0, 6, 0, t.2.2.2)
    | ((ps, cs), none) => match takeA cs fs with
      | (_, some t) => (core0, 6, 1, t.2.2.2)
      | (cs, none) =>
        let ps := fs.foldl namT ps
        let st := rulesF ps cs ([], []) 0 p
        ((ps, cs, st.1, fs.foldl (fun l a => factT l (rowF ps cs a)) st.2), 0, 0, 0)
theorem posL_snoc {κ : Type} [DecidableEq κ] {l : List κ} {s : κ} (h : s ∉ l) (t : κ) : posL (l ++ [s]) t = if t = s then some (l.length : Int) else posL l t := by
  unfold posL
  by_cases e : t = s
  · subst e
    rw [if_pos rfl, if_pos (by simp), List.idxOf_append, if_neg h]
    simp
  · rw [if_neg e]
    by_cases m : t ∈ l
    · rw [if_pos m, if_pos (by simp [m]), List.idxOf_append, if_pos m]
    · rw [if_neg m, if_neg (by simp [m, e])]
theorem posL_some {κ : Type} [DecidableEq κ] {l : List κ} {s : κ} : (posL l s).isSome = true ↔ s ∈ l := by
  unfold posL; split <;> simp_all
theorem lastL_snoc (l : Strs) (s t : List UInt8) : lastL (l ++ [s]) t = if t = s then some (l.length : Int) else lastL l t := by
  unfold lastL
  by_cases e : t = s
  · subst e
    rw [if_pos rfl, if_pos (by simp), List.reverse_append]
    simp
  · rw [if_neg e]
    by_cases m : t ∈ l
    · rw [if_pos m, if_pos (by simp [m]), List.reverse_append]
      have h2 : (s == t) = false := by simpa using fun h => e h.symm
      simp only [List.reverse_cons, List.reverse_nil, List.nil_append, List.singleton_append, List.idxOf_cons, h2, List.length_append, List.length_cons, List.length_nil, cond_false]
      congr 2; omega
    · rw [if_neg m, if_neg (by simp [m, e])]
theorem lastL_some {l : Strs} {s : List UInt8} : (lastL l s).isSome = true ↔ s ∈ l := by
  unfold lastL; split <;> simp_all
end Edict
end Merged
