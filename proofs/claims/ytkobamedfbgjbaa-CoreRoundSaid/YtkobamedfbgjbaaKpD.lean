import Derived.Test.YtkobamedfbgjbaaRows
import Derived.Test.YtkobamedfbgjbaaEvC
import Derived.WalkKit
import Derived.ProofKit
import Derived.OpenShut
import Derived.JoinedCond
import Derived.WideKeyArgs
import Derived.Deep.Slices
import Derived.Test.YtkobamedfbgjbaaUnb
import Derived.Test.YtkobamedfbgjbaaWell
import Derived.Test.YtkobamedfbgjbaaKpC
section Merged
section Merged
section Merged
namespace Go.Proofs.Ytkobamedfbgjbaa
open Go Go.Ev Go.ChangeShapes Go.WideShapes Go.ChangeAt Go.RowKit

variable {P : Program} {t e : TypeId}
theorem bulk_map {H : Type} {α : Type} [Rep α] (D : Nat → DataW H) : ∀ (l : List α) (k : Nat), (∀ i x, l[i]? = some x → Rep.bulk x ≤ Rows.uptoBulk (D (k + i))) → bulkL l ≤ Rows.uptoBulkAll ((List.range' k l.length).map D) + 1
  | [], _, _ => by simp [bulkL, Rows.uptoBulkAll]
  | x :: l, k, h => by
    have h0 := h 0 x rfl
    have ih := bulk_map D l (k + 1) (fun i y hy => by
      have := h (i + 1) y (by simpa using hy)
      rwa [show k + 1 + i = k + (i + 1) by omega])
    simp only [List.length_cons, List.range'_succ, List.map_cons, Rows.uptoBulkAll, bulkL]
    rw [Nat.add_zero] at h0
    omega
theorem sameAt_of {W W' : World} (h : Ext0 W.heap W'.heap) {x : MemPlace} (hx : x.block < W.heap.size) : W.sameAt W' x := by
  cases x with
  | cell b o =>
    show W'.cell? _ = W.cell? _
    unfold World.cell?
    rw [h.2 b hx]
  | map b => exact h.2 b hx
theorem trodAll_stays {H : Type} {enc : TypeId × Value → H} (hl : laidOutB P = true) {W W' : World} {sp : Nat → Bool} : ∀ {ts : List TypeId} {vs : List Value} {ds : List (DataW H)} {ps : List MemPlace}, (∀ t ∈ ts, P.readableRec t = true ∧ t < P.types.size) →
    DataW.TrodAll enc P W 0 (fun _ => true) true ts vs ds ps → (∀ x ∈ ps, W.sameAt W' x) → (∀ x ∈ ps, sp x.block = true) → DataW.TrodAll enc P W' 0 sp true ts vs ds ps
  | [], vs, ds, ps, _, h, _, _ => by
    obtain ⟨rfl, rfl, rfl⟩ := trodAll_nil h
    exact trodAll_mk0
  | t :: ts, vs, ds, ps, hr, h, hs, hp => by
    obtain ⟨v, vs', d, ds', p, q, rfl, rfl, rfl, h1, h2⟩ := trodAll_cons h
    exact trodAll_cons_mk (WideElems.Trod_stays hl (hr t (by simp)).1 (hr t (by simp)).2 h1 (fun x hx => hs x (by simp [hx])) (fun x hx => hp x (by simp [hx])))
      (trodAll_stays hl (fun u hu => hr u (by simp [hu])) h2 (fun x hx => hs x (by simp [hx])) (fun x hx => hp x (by simp [hx])))
theorem law_post {H : Type} {enc : TypeId × Value → H} {f : Func} {s : ChangeSpec} {W W' : World} {args : Array Value} {ds gs : List (DataW H)} {before : List MemPlace} {tb : TypeId} (hl : laidOutB P = true) (hres : f.resultTypes = #[tb]) (hb : P.underlying tb = some .bool)
    (hr : ∀ t ∈ f.params.toList, P.readableRec t = true ∧ t < P.types.size) (hW : DataW.Whole enc P f.params.toList s.vars false W args.toList ds gs before) (hv : s.vars = []) (hfn : s.fn H (ds ++ gs) = { results := [.lit (.bool true)], args := ds, vars := [] })
    (hg : Keep W W') (he : Ext0 W.heap W'.heap) : s.post enc P f false true false false W args (.bool true) W' := by
  have hW' := hW
  have hlt := hW.lt
  obtain ⟨p, q, hA, hV, rfl, hfz, hnd⟩ := hW
  rw [hv] at hV
  obtain ⟨rfl, rfl⟩ := trodVars_none hV
  have hold : ∀ x ∈ p ++ [], (fun b => decide (b < W.heap.size)) x.block = true := fun x hx => by simpa using hlt x hx
  have hargs : ∀ sp : Nat → Bool, (∀ x ∈ p, sp x.block = true) → DataW.TrodAll enc P W' 0 sp true f.params.toList args.toList (s.fn H (ds ++ [])).args p := fun sp hsp => by
    rw [hfn]
    exact trodAll_stays hl hr hA (fun x hx => sameAt_of he (hlt x (by simp [hx]))) hsp
  have hresult : ∀ (b : Nat) (sp : Nat → Bool) (hd : Bool), DataW.TrodAll enc P W' b sp hd f.resultTypes.toList ((Value.bool true).resultList f.resultTypes.size) (s.fn H (ds ++ [])).results [] := fun b sp hd => by
    rw [hfn, hres]
    exact trodAll_cons_mk (shut_bool hb _) trodAll_mk0
  have hvars : ∀ sp : Nat → Bool, DataW.TrodVars enc P W' sp s.vars (s.fn H (ds ++ [])).vars [] := fun sp => by rw [hfn, hv]; rfl
  refine ⟨ds, [], p ++ [], [], p, [], hW', hresult _ _ _, hargs _ (fun x hx => hold x (by simpa using hx)), hvars _, World.keptBut_mono (fun _ h => h.elim) (kept_of hg he), fun _ => ?_⟩
  refine ⟨ok_one (by rw [hres]) rfl (okWide_bool_mk hb _), _, _, ([] ++ p) ++ [], ⟨[] ++ p, [], trodAll_append (hargs _ (fun _ _ => rfl)) (hresult _ _ _), hvars _, rfl, ?_, ?_⟩, ?_⟩
  · intro b off hp
    have hlb : b < W.heap.size := hlt (.cell b off) (by simpa using hp)
    have := hfz b off (by simpa using hp)
    unfold World.frozen? at this ⊢
    rw [he.2 b hlb]; exact this
  · intro ha; cases ha
  · intro x hx _
    simpa using hx
end Go.Proofs.Ytkobamedfbgjbaa
end Merged
section Merged
namespace Edict
theorem loose_cases (vs : Strs) : ∀ (l : List Term), (∀ t ∈ l, looseB vs t = false) ∨ ∃ (i : Nat) (t : Term), l[i]? = some t ∧ (∀ s ∈ l.take i, looseB vs s = false) ∧ looseB vs t = true
  | [] => .inl (by simp)
  | t :: l => by
    cases hb : looseB vs t with
    | true => exact .inr ⟨0, t, rfl, by simp, hb⟩
    | false =>
      rcases loose_cases vs l with h | ⟨i, s, h1, h2, h3⟩
      · exact .inl fun s hs => by
          rcases List.mem_cons.1 hs with rfl | hs
          · exact hb
          · exact h s hs
      · refine .inr ⟨i + 1, s, by simpa using h1, fun r hr => ?_, h3⟩
        rw [List.take_succ_cons] at hr
        rcases List.mem_cons.1 hr with rfl | hr
        · exact hb
        · exact h2 r hr
end Edict
namespace Go.Proofs.Ytkobamedfbgjbaa
open Go Go.Ev Edict
theorem own_empty {α : Type} [Rep α] (k : Nat) (u : U) (h : H) (hk : k ≤ h.size) (e : TypeId) : Own k (ub u h.size 0) (h.push (.cells #[] e)) (.slice (some ⟨h.size, 0, none⟩) 0 0) ([] : List α) := by
  have := Own.made (α := α) (k := k) u h hk e [] [] (by simp) (Nat.zero_le _) (fun i x hx => by simp at hx)
  simpa using this
theorem clause_bulk {c : Clause} (hb : Rep.bulk c ≤ 1048576) : bulkL c.2 ≤ 1048576 ∧ c.1.2.1.length ≤ 1048576 ∧ (c.2.flatMap askL).length ≤ 1048576 := by
  have h2 := flat_bulk askL_len c.2
  have h3 : Rep.bulk c = (c.1.1.length + 1 + (bulkL c.1.2.1 + 1)) + bulkL c.2 := rfl
  have h4 := bulkL_pos c.1.2.1
  omega
end Go.Proofs.Ytkobamedfbgjbaa
end Merged
end Merged
section Merged
namespace Edict
def isA (l : Literal) : Bool := decide (l.1 = 1 ∨ l.1 = 2)
def atomsL (ls : List Literal) : List Atom := (ls.filter isA).map (·.2.1)
def atomsC (c : Clause) : List Atom := c.1 :: atomsL c.2
def termsC (c : Clause) : List Term := c.1.2.1 ++ c.2.flatMap termsL
def arOf (ps : List Pred) (s : List UInt8) : Option Int := (ps.find? fun p => decide (p.1 = s)).map (·.2)
def clashF : List Pred → List Atom → List Pred × Int × Int
  | ps, [] => (ps, 0, 0)
  | ps, a :: l => match arOf ps a.1 with
    | some n => if n = a.2.1.length then clashF ps l else (ps, 30, a.2.2)
    | none => if 128 ≤ ps.length then (ps, 31, a.2.2) else clashF (ps ++ [(a.1, (a.2.1.length : Int))]) l
def crowdF : Strs → List Term → Option Term
  | _, [] => none
  | vs, t :: l => if 16 < (varT vs t).length then some t else crowdF (varT vs t) l
def looseO (c : Clause) : Option Term := (allTerms c).find? (looseB (varsF c.2))
def cnst (t : Term) : Const := (t.1, t.2.1, t.2.2.1)
def valT (cs : List Const) (t : Term) : List Const := if t.1 = 4 ∨ cnst t ∈ cs then cs else cs ++ [cnst t]
def valF : List Const → List Term → List Const × Option Term
  | cs, [] => (cs, none)
  | cs, t :: l => if t.1 ≠ 4 ∧ cnst t ∉ cs ∧ 65536 ≤ cs.length then (cs, some t) else valF (valT cs t) l
def namT (ps : List Pred) (a : Atom) : List Pred := if a.1 ∈ ps.map (·.1) then ps else ps ++ [(a.1, (a.2.1.length : Int))]
def posL {κ : Type} [DecidableEq κ] (l : List κ) (s : κ) : Option Int := if s ∈ l then some ((l.idxOf s : Nat) : Int) else none
def idL {κ : Type} [DecidableEq κ] (l : List κ) (s : κ) : Int := (posL l s).getD 0
def lastL (l : Strs) (s : List UInt8) : Option Int := if s ∈ l then some (((l.length - 1 - l.reverse.idxOf s : Nat)) : Int) else none
def lastI (l : Strs) (s : List UInt8) : Int := (lastL l s).getD 0
def slotN (cs : List Const) (vs : Strs) (t : Term) : Slot := if t.1 = 4 then (true, lastI vs t.2.2.1) else (false, idL cs (cnst t))
def slotP (cs : List Const) (vs : Strs) (t : Term) : Slot := slotN cs (varT vs t) t
def slotsP (cs : List Const) : Strs → List Term → List Slot
  | _, [] => []
  | vs, t :: l => slotP cs vs t :: slotsP cs (varT vs t) l
def pids (ps : List Pred) (s : List UInt8) : Int := idL (ps.map (·.1)) s
def posF (ps : List Pred) (cs : List Const) : Strs → List Literal → List Pattern
  | _, [] => []
  | vs, l :: r => if l.1 = 1 then (pids ps l.2.1.1, slotsP cs vs l.2.1.2.1) :: posF ps cs (varL vs l) r else posF ps cs vs r
def testF (cs : List Const) (vs : Strs) (l : Literal) : Test := (l.2.2.1, slotN cs vs l.2.2.2.1, slotN cs vs l.2.2.2.2.1)
def patF (ps : List Pred) (cs : List Const) (vs : Strs) (a : Atom) : Pattern := (pids ps a.1, a.2.1.map (slotN cs vs))
def testsF (cs : List Const) (vs : Strs) (ls : List Literal) : List Test := (ls.filter fun l => decide (l.1 = 3)).map (testF cs vs)
def negsF (ps : List Pred) (cs : List Const) (vs : Strs) (ls : List Literal) : List Pattern := (ls.filter fun l => decide (l.1 = 2)).map fun l => patF ps cs vs l.2.1
def ruleF (ps : List Pred) (cs : List Const) (hd : Pattern) (n : Int) (ls : List Literal) : Rule := (hd, posF ps cs [] ls, testsF cs (varsF ls) ls, negsF ps cs (varsF ls) ls, varsF ls, n)
def ruleC (ps : List Pred) (cs : List Const) (n : Int) (c : Clause) : Rule := ruleF ps cs (patF ps cs (varsF c.2) c.1) n c.2
def rowF (ps : List Pred) (cs : List Const) (a : Atom) : Row := (pids ps a.1, a.2.1.map fun t => idL cs (cnst t))
def key9 (r : Row) : List Int := (r.1 :: r.2) ++ List.replicate (8 - r.2.length) 0
def factT (l : List Row) (r : Row) : List Row := if key9 r ∈ l.map key9 then l else l ++ [r]
def stepR (ps : List Pred) (cs : List Const) (st : List Rule × List Row) (n : Nat) (c : Clause) : List Rule × List Row :=
  if c.2 = [] then (st.1, factT st.2 (rowF ps cs c.1)) else (st.1 ++ [ruleC ps cs n c], st.2)
def rulesF (ps : List Pred) (cs : List Const) : List Rule × List Row → Nat → List Clause → List Rule × List Row
  | st, _, [] => st
  | st, n, c :: l => rulesF ps cs (stepR ps cs st n c) (n + 1) l
def takeF : List Pred × List Const → List Clause → (List Pred × List Const) × Option Term
  | st, [] => (st, none)
  | st, c :: l => match valF st.2 (termsC c) with
    | (cs, none) => takeF ((atomsC c).foldl namT st.1, cs) l
    | (cs, some t) => (((atomsC c).foldl namT st.1, cs), some t)
def takeA : List Const → List Atom → List Const × Option Term
  | cs, [] => (cs, none)
  | cs, a :: l => match valF cs a.2.1 with
    | (cs, none) => takeA cs l
    | (cs, some t) => (cs, some t)
abbrev Flt := Int × Int × Int
def grB (a : Atom) : Bool := decide (atomW a = 0) && a.2.1.all fun t => !decide (t.1 = 4)
def formF (p : List Clause) (fs : List Atom) : Flt :=
  if wellW p ≠ 0 then (wellW p, 0, 0)
  else if 4096 < fs.length then (24, 1, 0)
  else match fs.find? fun a => !grB a with
    | some a => (2, 1, a.2.2)
    | none => match clashF [] (p.flatMap atomsC) with
      | (_, 30, o) => (30, 0, o)
      | (_, 31, o) => (31, 0, o)
      | (ps, _) => match clashF ps fs with
        | (_, 30, o) => (30, 1, o)
        | (_, 31, o) => (31, 1, o)
        | _ => (0, 0, 0)
def boundC (c : Clause) : Flt := match crowdF [] (termsC c) with
  | some t => (32, 0, t.2.2.2)
  | none => match looseO c with
    | some t => (33, 0, t.2.2.2)
    | none => (0, 0, 0)
def boundF : List Clause → Flt
  | [] => (0, 0, 0)
  | c :: l => if boundC c = (0, 0, 0) then boundF l else boundC c
def core0 : Core := ([], [], [], [])
def buildF (p : List Clause) (fs : List Atom) : Core × Flt :=
  if formF p fs ≠ (0, 0, 0) then (core0, formF p fs)
  else if boundF p ≠ (0, 0, 0) then (core0, boundF p)
  else match takeF ([], []) p with
    | (_, some t) => (core0, 6, 0, t.2.2.2)
    | ((ps, cs), none) => match takeA cs fs with
      | (_, some t) => (core0, 6, 1, t.2.2.2)
      | (cs, none) =>
        let ps := fs.foldl namT ps
        let st := rulesF ps cs ([], []) 0 p
        ((ps, cs, st.1, fs.foldl (fun l a => factT l (rowF ps cs a)) st.2), 0, 0, 0)
theorem posL_snoc {κ : Type} [DecidableEq κ] {l : List κ} {s : κ} (h : s ∉ l) (t : κ) : posL (l ++ [s]) t = if t = s then some (l.length : Int) else posL l t := by
  unfold posL
  by_cases e : t = s
  · subst e
    rw [if_pos rfl, if_pos (by simp), List.idxOf_append, if_neg h]
    simp
  · rw [if_neg e]
    by_cases m : t ∈ l
    · rw [if_pos m, if_pos (by simp [m]), List.idxOf_append, if_pos m]
    · rw [if_neg m, if_neg (by simp [m, e])]
theorem posL_some {κ : Type} [DecidableEq κ] {l : List κ} {s : κ} : (posL l s).isSome = true ↔ s ∈ l := by
  unfold posL; split <;> simp_all
theorem lastL_snoc (l : Strs) (s t : List UInt8) : lastL (l ++ [s]) t = if t = s then some (l.length : Int) else lastL l t := by
  unfold lastL
  by_cases e : t = s
  · subst e
    rw [if_pos rfl, if_pos (by simp), List.reverse_append]
    simp
  · rw [if_neg e]
    by_cases m : t ∈ l
    · rw [if_pos m, if_pos (by simp [m]), List.reverse_append]
      have h2 : (s == t) = false := by simpa using fun h => e h.symm
      simp only [List.reverse_cons, List.reverse_nil, List.nil_append, List.singleton_append, List.idxOf_cons, h2, List.length_append, List.length_cons, List.length_nil, cond_false]
      congr 2; omega
    · rw [if_neg m, if_neg (by simp [m, e])]
theorem lastL_some {l : Strs} {s : List UInt8} : (lastL l s).isSome = true ↔ s ∈ l := by
  unfold lastL; split <;> simp_all
end Edict
end Merged
end Merged
section Merged
namespace Edict
theorem firstW_all {α : Type} {f : α → Int} : ∀ {l : List α}, firstW f l = 0 → ∀ x ∈ l, f x = 0
  | [], _, x, hx => by cases hx
  | a :: l, h, x, hx => by
    unfold firstW at h
    by_cases e : f a = 0
    · rw [if_pos e] at h
      rcases List.mem_cons.1 hx with rfl | hx
      · exact e
      · exact firstW_all h x hx
    · rw [if_neg e] at h; exact absurd h e
theorem atomW_zero {a : Atom} (h : atomW a = 0) : nameB a.1 = true ∧ a.2.1.length ≤ 8 ∧ ∀ t ∈ a.2.1, termW t = 0 := by
  unfold atomW at h
  by_cases h1 : nameB a.1 = true
  · rw [if_pos h1] at h
    by_cases h2 : 8 < a.2.1.length
    · rw [if_pos h2] at h; cases h
    · rw [if_neg h2] at h
      exact ⟨h1, by omega, firstW_all h⟩
  · rw [if_neg h1] at h; cases h
theorem name_ne {s : List UInt8} (h : nameB s = true) : s ≠ [] := by
  rintro rfl
  simp [nameB, wordB] at h
end Edict
namespace Go.Proofs.Ytkobamedfbgjbaa
open Go Go.Ev Edict
def C_applied (vs : List Value) (h : H) (K : Value → H → Prop) : Prop := ∃ (b : Nat) (p : List UInt8) (v : Value) (l : List Term) (k : Nat) (u : U), vs = [.pointer (some ⟨b, 0, none⟩), str p, v] ∧ (∀ t ∈ l, Rep.wf t ∧ termW t = 0) ∧ l.length ≤ 8 ∧ p.length ≤ 64 ∧ p ≠ [] ∧
  Bu k u h b [] ∧ PowT u h ∧ IsSlP u h v l ∧
  ∀ u' h' (m : List UInt8), Step (BldB h b) u h u' h' → Bu k u' h' b m → m ≠ [] → K (.tuple #[]) h'
def G_prApplied : Ctr := fun f vs h K _ => (f = 101 ∧ C_wstr vs h K) ∨ (f = 102 ∧ C_wbyte vs h K) ∨ (f = 103 ∧ C_between vs h K)
theorem G_prApplied_ok : GOk Try.prog G_prApplied := by
  rintro f vs h K KP (⟨rfl, hC⟩ | ⟨rfl, hC⟩ | ⟨rfl, hC⟩)
  · exact sbWriteString_ok hC
  · exact sbWriteByte_ok hC
  · exact prBetween_ok hC
theorem prApplied_ok {vs : List Value} {h : H} {K : Value → H → Prop} {KP : List PanicEntry → H → Prop} (hC : C_applied vs h K) : HCX Try.prog 98 vs h K KP := by
  obtain ⟨b, p, v, l, k, u, rfl, hall, hlen, hp, hpn, B, hP, hl, hK⟩ := hC
  obtain ⟨la, lc, rfl, q1, q2⟩ := @IsSl.sl Term repPart _ _ _ _ hl
  refine prApplied_H G_prApplied G_prApplied_ok _ _ _ ?_
  simp (disch := first | omega | (simp only [zz]; try omega; done)) only [↓reduceIte, go_sem, prApplied_S, prApplied_E]
  refine effS_call (.inl ⟨rfl, _, p, rfl, k, u, b, [], rfl, B, by simp; omega, fun u1 h1 s1 B1 hb1 => ⟨by simp (disch := first | omega | (simp only [zz]; try omega; done)) only [go_sem], ?_⟩⟩)
  rw [List.nil_append] at B1
  by_cases h0 : l.length = 0
  · simp (disch := first | omega | (simp only [zz]; try omega; done)) only [↓reduceIte, go_sem, eq_false (show ¬ (0 : Int) < l.length by omega)]
    exact hK u1 h1 p s1 B1 hpn
  · simp (disch := first | omega | (simp only [zz]; try omega; done)) only [↓reduceIte, go_sem, eq_true (show (0 : Int) < l.length by omega)]
    refine effS_call (.inr (.inl ⟨rfl, _, 40, rfl, k, u1, b, p, rfl, B1, by simp; omega, fun u2 h2 s2 B2 hb2 => ⟨by simp (disch := first | omega | (simp only [zz]; try omega; done)) only [go_sem], ?_⟩⟩))
    obtain ⟨c1, c2⟩ := bld_chain s1 hb1 s2 hb2
    simp (disch := first | omega | (simp only [zz]; try omega; done)) only [↓reduceIte, go_sem]
    refine effS_call (.inr (.inr ⟨rfl, b, _, l, u2, rfl, hall, hlen, k, u2, _, B2, by simp; omega, hP.mono c1.ge, @IsSl.mono Term repPart _ _ _ _ _ _ c1.ge hl, fun u3 h3 m s3 B3 hm hb3 => ⟨by simp (disch := first | omega | (simp only [zz]; try omega; done)) only [go_sem], ?_⟩⟩))
    obtain ⟨c3, c4⟩ := bld_chain c1 c2 s3 hb3
    simp (disch := first | omega | (simp only [zz]; try omega; done)) only [↓reduceIte, go_sem]
    refine effS_call (.inr (.inl ⟨rfl, _, 41, rfl, k, u3, b, _, rfl, B3, by simp; omega, fun u4 h4 s4 B4 hb4 => ⟨by simp (disch := first | omega | (simp only [zz]; try omega; done)) only [go_sem], ?_⟩⟩))
    obtain ⟨c5, -⟩ := bld_chain c3 c4 s4 hb4
    simp (disch := first | omega | (simp only [zz]; try omega; done)) only [go_sem]
    exact hK u4 h4 _ c5 B4 (by simp)
def C_atomW (vs : List Value) (h : H) (K : Value → H → Prop) : Prop := ∃ (b : Nat) (a : Atom) (v : Value) (k : Nat) (u : U), vs = [.agg #[str a.1, v, .int .i64 a.2.2], .pointer (some ⟨b, 0, none⟩)] ∧ IsSl u h v a.2.1 ∧ (∀ t ∈ a.2.1, Rep.wf t) ∧ atomW a = 0 ∧
  Bu k u h b [] ∧ PowT u h ∧ ∀ u' h' (m : List UInt8), Step (BldB h b) u h u' h' → Bu k u' h' b m → m ≠ [] → K (.tuple #[]) h'
def G_prAtomW : Ctr := fun f vs h K _ => (f = 99 ∧ C_parts vs h K) ∨ (f = 98 ∧ C_applied vs h K)
theorem G_prAtomW_ok : GOk Try.prog G_prAtomW := by
  rintro f vs h K KP (⟨rfl, hC⟩ | ⟨rfl, hC⟩)
  · exact prParts_ok hC
  · exact prApplied_ok hC
theorem prAtomW_ok {vs : List Value} {h : H} {K : Value → H → Prop} {KP : List PanicEntry → H → Prop} (hC : C_atomW vs h K) : HCX Try.prog 97 vs h K KP := by
  obtain ⟨b, a, v, k, u, rfl, hl, hw, ha, B, hP, hK⟩ := hC
  obtain ⟨z1, z2, z3⟩ := atomW_zero ha
  obtain ⟨la, lc, rfl, q1, q2⟩ := hl.sl
  refine prAtomW_H G_prAtomW G_prAtomW_ok _ _ ?_
  have sp : Step S0 u h _ _ := Step.push0 S0 u h #[str a.1, .slice la a.2.1.length lc, .int .i64 a.2.2] 155
  have X : Blk (ub u h.size 0) (h.push (.cells #[str a.1, .slice la a.2.1.length lc, .int .i64 a.2.2] 155)) h.size [str a.1, .slice la a.2.1.length lc, .int .i64 a.2.2] := (Blk.mk (by simp only [e_psz]; omega) (by simp (disch := first | omega | (simp only [zz]; try omega; done)) only [go_sem]) (by simp (disch := first | omega | (simp only [zz]; try omega; done)) only [go_sem]) (by repeat (first | (refine ub_at ?_; simp only []; done) | apply ub_zero)) (by simp (disch := first | omega | (simp only [zz]; try omega; done)) only [go_sem]))
  simp (disch := first | omega | (simp only [zz]; try omega; done)) only [↓reduceIte, go_sem, prAtomW_S, prAtomW_E]
  refine effS_call (.inl ⟨rfl, ub u h.size 0, _, a.2.1, rfl, hl.mono sp.ge, by omega, fun u1 h1 w s1 hw1 => ⟨?_, ?_⟩⟩)
  · have X1 := X.step0 s1
    simp (disch := first | omega | (simp only [zz]; try omega; done)) only [↓reduceIte, go_sem, X.at, X1.at, X1.2.1]
  have st1 := sp.trans0 s1
  obtain ⟨B1, e1⟩ := B.step0 st1
  simp (disch := first | omega | (simp only [zz]; try omega; done)) only [↓reduceIte, go_sem]
  refine effS_call (.inr ⟨rfl, b, a.1, w, a.2.1, k, u1, rfl, fun t ht => ⟨hw t ht, z3 t ht⟩, z2, name_len z1, name_ne z1, B1, hP.mono st1.ge, hw1, fun u2 h2 m s2 B2 hm => ⟨by simp (disch := first | omega | (simp only [zz]; try omega; done)) only [go_sem], ?_⟩⟩)
  have eB : ∀ j, BldB h1 b j → BldB h b j := fun j hB => hB.imp id fun hB => by rw [e1] at hB; exact hB
  simp (disch := first | omega | (simp only [zz]; try omega; done)) only [go_sem]
  exact hK u2 h2 m ((st1.mono (S' := BldB h b) (fun _ _ h => h.elim)).trans s2 (fun j _ hB => eB j hB)) B2 hm
def C_textA (vs : List Value) (h : H) (K : Value → H → Prop) : Prop := ∃ (a : Atom) (v : Value) (u : U), vs = [.int .i64 (atomW a), .iface 155 (.agg #[str a.1, v, .int .i64 a.2.2])] ∧ IsSl u h v a.2.1 ∧ (∀ t ∈ a.2.1, Rep.wf t) ∧ PowT u h ∧
  ∀ u' h' (s : List UInt8), Step S0 u h u' h' → (s = [] ↔ atomW a ≠ 0) → K (str s) h'
def G_prText : Ctr := fun f vs h K _ => (f = 97 ∧ C_atomW vs h K) ∨ (f = 74 ∧ C_bstring vs h K)
theorem G_prText_ok : GOk Try.prog G_prText := by
  rintro f vs h K KP (⟨rfl, hC⟩ | ⟨rfl, hC⟩)
  · exact prAtomW_ok hC
  · exact sbString_ok hC
theorem prText_ok {vs : List Value} {h : H} {K : Value → H → Prop} {KP : List PanicEntry → H → Prop} (hC : C_textA vs h K) : HCX Try.prog 69 vs h K KP := by
  obtain ⟨a, v, u, rfl, hl, hw, hP, hK⟩ := hC
  refine prText_H G_prText G_prText_ok _ _ ?_
  by_cases h0 : atomW a = 0
  · simp (disch := first | omega | (simp only [zz]; try omega; done)) only [↓reduceIte, go_sem, prText_S, prText_E, eq_true h0]
    have sp : Step S0 u h _ _ := Step.push0 S0 u h #[.pointer none, .slice none 0 0] 163
    have B := Bu.new u h
    refine effS_inv rfl (.inl ⟨rfl, h.size, a, v, h.size, ub u h.size 0, rfl, hl.mono sp.ge, hw, h0, B, hP.mono sp.ge, fun u1 h1 m s1 B1 hm => ⟨by simp (disch := first | omega | (simp only [zz]; try omega; done)) only [go_sem], ?_⟩⟩)
    have st1 : Step S0 u h u1 h1 := sp.trans s1 (fun i hi hB => by have := (B.ge hB).1; omega)
    simp (disch := first | omega | (simp only [zz]; try omega; done)) only [↓reduceIte, go_sem]
    refine effS_call (.inr ⟨rfl, h.size, u1, h.size, m, rfl, B1, hm, fun h2 hs hb => ⟨by simp (disch := first | omega | (simp only [zz]; try omega; done)) only [go_sem], ?_⟩⟩)
    simp (disch := first | omega | (simp only [zz]; try omega; done)) only [↓reduceIte, go_sem]
    exact hK u1 h2 m (Step.below st1 hs hb) ⟨fun e => absurd e hm, fun e => absurd h0 e⟩
  · simp (disch := first | omega | (simp only [zz]; try omega; done)) only [↓reduceIte, go_sem, prText_S, prText_E, eq_false h0]
    exact hK u h [] (.refl _ _ _) ⟨fun _ => h0, fun _ => rfl⟩
def C_pAtom (vs : List Value) (h : H) (K : Value → H → Prop) : Prop := ∃ (a : Atom) (v : Value) (u : U), vs = [.agg #[str a.1, v, .int .i64 a.2.2]] ∧ IsSl u h v a.2.1 ∧ Rep.wf a ∧ PowT u h ∧
  ∀ u' h' (s : List UInt8), Step S0 u h u' h' → (s = [] ↔ atomW a ≠ 0) → K (str s) h'
def G_prAtom : Ctr := fun f vs h K _ => (f = 66 ∧ C_data (vI atomW) vs h K) ∨ (f = 69 ∧ C_textA vs h K)
theorem G_prAtom_ok : GOk Try.prog G_prAtom := by
  rintro f vs h K KP (⟨rfl, hC⟩ | ⟨rfl, hC⟩)
  · exact prWellAtom_ok hC
  · exact prText_ok hC
theorem prAtom_ok {vs : List Value} {h : H} {K : Value → H → Prop} {KP : List PanicEntry → H → Prop} (hC : C_pAtom vs h K) : HCX Try.prog 65 vs h K KP := by
  obtain ⟨a, v, u, rfl, hl, hw, hP, hK⟩ := hC
  obtain ⟨la, lc, rfl, q1, q2⟩ := hl.sl
  refine prAtom_H G_prAtom G_prAtom_ok _ ?_
  have sp : Step S0 u h _ _ := Step.push0 S0 u h #[str a.1, .slice la a.2.1.length lc, .int .i64 a.2.2] 45
  have X : Blk (ub u h.size 0) (h.push (.cells #[str a.1, .slice la a.2.1.length lc, .int .i64 a.2.2] 45)) h.size [str a.1, .slice la a.2.1.length lc, .int .i64 a.2.2] := (Blk.mk (by simp only [e_psz]; omega) (by simp (disch := first | omega | (simp only [zz]; try omega; done)) only [go_sem]) (by simp (disch := first | omega | (simp only [zz]; try omega; done)) only [go_sem]) (by repeat (first | (refine ub_at ?_; simp only []; done) | apply ub_zero)) (by simp (disch := first | omega | (simp only [zz]; try omega; done)) only [go_sem]))
  simp (disch := first | omega | (simp only [zz]; try omega; done)) only [↓reduceIte, go_sem, prAtom_S, prAtom_E]
  refine effS_call (.inl ⟨rfl, ub u h.size 0, a, [str a.1, .slice la a.2.1.length lc, .int .i64 a.2.2], rfl, by rw [rep_atom]; exact ⟨_, rfl, hl.mono sp.ge⟩, hw, fun u1 h1 s1 => ⟨?_, ?_⟩⟩)
  · have X1 := X.step0 s1
    simp (disch := first | omega | (simp only [zz]; try omega; done)) only [↓reduceIte, go_sem, X.at, X1.at, X1.2.1]
  have st1 := sp.trans0 s1
  simp only [vI]
  simp (disch := first | omega | (simp only [zz]; try omega; done)) only [↓reduceIte, go_sem]
  refine effS_call (.inr ⟨rfl, a, _, u1, rfl, hl.mono st1.ge, hw.2.1.2, hP.mono st1.ge, fun u2 h2 s s2 hs => ⟨by simp (disch := first | omega | (simp only [zz]; try omega; done)) only [go_sem], ?_⟩⟩)
  simp (disch := first | omega | (simp only [zz]; try omega; done)) only [↓reduceIte, go_sem]
  exact hK u2 h2 s (st1.trans0 s2) hs
end Go.Proofs.Ytkobamedfbgjbaa
end Merged
