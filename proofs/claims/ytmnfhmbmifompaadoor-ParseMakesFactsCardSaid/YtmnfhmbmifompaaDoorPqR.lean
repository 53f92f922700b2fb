/- Programs, queries, facts that the maker made; how long they are; an atom made elsewhere. -/
import Derived.Test.YtmnfhmbmifompaaDoorPqO
namespace Edict
open Go
section
variable {gs : List Int}
theorem getD_okC {l : List CC} (hl : ∀ t ∈ l, OkCC t) (i : Nat) : OkCC (l.getD i noCC) := by
  rw [List.getD_eq_getElem?_getD]
  cases hx : l[i]? with
  | none => exact ⟨fun t ht => (by cases ht), fun t ht => (by cases ht)⟩
  | some x => exact hl x (List.mem_of_getElem? hx)
theorem progS_ok {l : List CC} (hl : ∀ t ∈ l, OkCC t) : ∀ i, i ≤ 512 → ∃ U, Lays (progS gs l i).2.1 U ∧ wdB (lastB (progS gs l i).2.1) = false ∧ (progS gs l i).1.length = i ∧ ∀ bad r, progD bad [] (U ++ r) = progD bad (progS gs l i).1 r
  | 0, _ => ⟨[], lays_nil, rfl, rfl, fun bad r => rfl⟩
  | i + 1, hi => by
    obtain ⟨U, h1, h2, h3, h4⟩ := progS_ok hl i (by omega)
    obtain ⟨t0, U', c1, c2, c3, c4⟩ := mkClause_ok (gs := gs) h1 h2 (getD_okC hl i)
    have hcs : (progS gs l (i + 1)).1 = (progS gs l i).1 ++ [(mkClause gs (l.getD i noCC) (progS gs l i).2).1] := rfl
    refine ⟨U ++ t0 :: U', c1, c3, by rw [hcs, List.length_append, h3]; rfl, fun bad r => ?_⟩
    have hc := c4 bad r
    rw [List.append_assoc, h4]
    rw [List.cons_append] at hc ⊢
    unfold progD
    rw [allD_on (by rw [c2]; decide) (by omega) hc, hcs]
theorem factsS_ok {l : List CC} (hl : ∀ t ∈ l, OkCC t) : ∀ i, i ≤ 4096 → ∃ U, Lays (factsS gs l i).2.1 U ∧ wdB (lastB (factsS gs l i).2.1) = false ∧ (factsS gs l i).1.length = i ∧ ∀ bad r, factsD bad [] (U ++ r) = factsD bad (factsS gs l i).1 r
  | 0, _ => ⟨[], lays_nil, rfl, rfl, fun bad r => rfl⟩
  | i + 1, hi => by
    obtain ⟨U, h1, h2, h3, h4⟩ := factsS_ok hl i (by omega)
    obtain ⟨t0, U', u1, ⟨u2, -⟩, u3, -⟩ := mkAtom_ok (gs := gs) (gr := true) h1 h2 (getD_okC hl i).1
    obtain ⟨d, d1, d2, d3⟩ := put_sign (gs := gs) u1 (s := [46]) rfl (by decide) sg_dot (by decide)
    have hcs : (factsS gs l (i + 1)).1 = (factsS gs l i).1 ++ [(mkAtom gs true (l.getD i noCC).1 (factsS gs l i).2).1] := rfl
    refine ⟨U ++ t0 :: (U' ++ [d]), ?_, by show wdB (lastB (putS gs (mkAtom gs true (l.getD i noCC).1 (factsS gs l i).2).2 [46]).1) = false; rw [d3]; rfl, by rw [hcs, List.length_append, h3]; rfl, fun bad r => ?_⟩
    · have : U ++ t0 :: (U' ++ [d]) = U ++ t0 :: U' ++ [d] := by simp
      rw [this]; exact d1
    · have hc : factD1 bad (t0 :: (U' ++ [d] ++ r)) = .ok ((mkAtom gs true (l.getD i noCC).1 (factsS gs l i).2).1, r) := by
        have := u3 bad d r (by rw [d2]; decide)
        have e2 : t0 :: (U' ++ [d] ++ r) = t0 :: U' ++ d :: r := by simp
        rw [e2]
        unfold factD1
        rw [Bool.not_true] at this
        rw [this]
        simp only
        rw [if_pos d2]
      rw [List.append_assoc, h4]
      rw [List.cons_append]
      unfold factsD
      rw [allD_on (by rw [u2]; decide) (by omega) hc, hcs]
theorem endT_0 (n : Nat) : tK (endT n) = 0 := rfl
theorem made_scan {x : List UInt8} {W : List Tok} {k : Nat} (h : Lays x W) : scanK (x ++ gapK gs k) 0 = (W ++ [endT (x ++ gapK gs k).length], 0, 0) := lays_end h (gapK_ok gs k) (gapK_0 gs k)
theorem made_badF {s : List UInt8} {l : List Tok} (hl : s.length ≤ 65536) (h : scanK s 0 = (l, 0, 0)) : badF s = (0, 0) ∧ (scanF s).1 = l := by
  unfold badF
  rw [scanF_is hl, h]
  exact ⟨rfl, rfl⟩
theorem prog_made {l : List CC} (hl : ∀ t ∈ l, OkCC t) {i : Nat} (hi : i ≤ 512) : resProg ((progS gs l i).2.1 ++ gapK gs (progS gs l i).2.2) = if 65536 < ((progS gs l i).2.1 ++ gapK gs (progS gs l i).2.2).length then ([], (1, 0)) else ((progS gs l i).1, (0, 0)) := by
  obtain ⟨U, h1, h2, h3, h4⟩ := progS_ok (gs := gs) hl i hi
  have hs := made_scan (gs := gs) (k := (progS gs l i).2.2) h1
  obtain ⟨S, hS⟩ : ∃ S, S = (progS gs l i).2.1 ++ gapK gs (progS gs l i).2.2 := ⟨_, rfl⟩
  rw [← hS] at hs ⊢
  unfold resProg parseF
  by_cases hl6 : 65536 < S.length
  · rw [if_pos hl6, if_pos hl6]
  · rw [if_neg hl6, if_neg hl6]
    obtain ⟨e1, e2⟩ := made_badF (by omega) hs
    rw [e1, e2]
    simp only
    rw [h4]
    unfold progD
    rw [allD_end (endT_0 _)]
theorem facts_made {l : List CC} (hl : ∀ t ∈ l, OkCC t) {i : Nat} (hi : i ≤ 4096) : resFacs ((factsS gs l i).2.1 ++ gapK gs (factsS gs l i).2.2) = if 65536 < ((factsS gs l i).2.1 ++ gapK gs (factsS gs l i).2.2).length then ([], (1, 0)) else ((factsS gs l i).1, (0, 0)) := by
  obtain ⟨U, h1, h2, h3, h4⟩ := factsS_ok (gs := gs) hl i hi
  have hs := made_scan (gs := gs) (k := (factsS gs l i).2.2) h1
  obtain ⟨S, hS⟩ : ∃ S, S = (factsS gs l i).2.1 ++ gapK gs (factsS gs l i).2.2 := ⟨_, rfl⟩
  rw [← hS] at hs ⊢
  unfold resFacs parseF
  by_cases hl6 : 65536 < S.length
  · rw [if_pos hl6, if_pos hl6]
  · rw [if_neg hl6, if_neg hl6]
    obtain ⟨e1, e2⟩ := made_badF (by omega) hs
    rw [e1, e2]
    simp only
    rw [h4]
    unfold factsD
    rw [allD_end (endT_0 _)]
/-- A body, a dot, a gap, as a query. -/
theorem query_made {l : List LL} (hl : ∀ t ∈ l, OkLL t) (h0 : 0 < l.length) (hx : ((putS gs (mkBody gs l ([], 0)).2 [46]).1 ++ gapK gs (putS gs (mkBody gs l ([], 0)).2 [46]).2).length ≤ 65536) :
    resQry ((putS gs (mkBody gs l ([], 0)).2 [46]).1 ++ gapK gs (putS gs (mkBody gs l ([], 0)).2 [46]).2) = ((mkBody gs l ([], 0)).1, (0, 0)) := by
  obtain ⟨B, b1, -, -, b4⟩ := bodyS_ok (gs := gs) (st := ([], 0)) lays_nil rfl hl (min l.length 16) (by omega)
  obtain ⟨f, f1, f2, f3⟩ := put_sign (gs := gs) b1 (s := [46]) rfl (by decide) sg_dot (by decide)
  have hs := made_scan (gs := gs) (k := (putS gs (bodyS gs l ([], 0) (min l.length 16)).2 [46]).2) f1
  unfold mkBody at hx ⊢
  obtain ⟨S, hS⟩ : ∃ S, S = (putS gs (bodyS gs l ([], 0) (min l.length 16)).2 [46]).1 ++ gapK gs (putS gs (bodyS gs l ([], 0) (min l.length 16)).2 [46]).2 := ⟨_, rfl⟩
  rw [← hS] at hs hx ⊢
  unfold resQry parseF
  rw [if_neg (by omega)]
  obtain ⟨e1, e2⟩ := made_badF hx hs
  rw [e1, e2]
  unfold queryD
  rw [List.nil_append, List.append_assoc, List.singleton_append, b4 (by omega) (0, 0) f [endT S.length] (by rw [f2]; decide) (by rw [f2]; decide), if_neg (by rw [f2]; decide), if_pos f2]
  rfl
/-- An atom alone, as one fact. -/
theorem one_made {a : AA} (ha : OkAA a) {k : Nat} (hx : (mkAtom gs true a ([], k)).2.1.length ≤ 65536) : parseF oneD (mkAtom gs true a ([], k)).2.1 = .ok (mkAtom gs true a ([], k)).1 := by
  obtain ⟨t0, U', u1, -, u3, -⟩ := mkAtom_ok (gs := gs) (st := ([], k)) (gr := true) lays_nil rfl ha
  obtain ⟨S, hS⟩ : ∃ S, S = (mkAtom gs true a ([], k)).2.1 := ⟨_, rfl⟩
  rw [← hS] at u1 hx ⊢
  unfold parseF
  rw [if_neg (by omega)]
  obtain ⟨e1, e2⟩ := made_badF hx u1.1
  rw [e1, e2, List.nil_append]
  have := u3 (0, 0) (endT S.length) [] (by rw [endT_0]; decide)
  unfold oneD
  rw [Bool.not_true] at this
  rw [this]
  rfl
/-! ### How long -/
def Near (st st' : MS) (a b : Nat) : Prop := st'.1.length ≤ st.1.length + a ∧ st'.2 ≤ st.2 + b
theorem Near.trans {s1 s2 s3 : MS} {a b c d : Nat} (h : Near s1 s2 a b) (k : Near s2 s3 c d) : Near s1 s3 (a + c) (b + d) := ⟨by have := h.1; have := k.1; omega, by have := h.2; have := k.2; omega⟩
theorem Near.le {s1 s2 : MS} {a b c d : Nat} (h : Near s1 s2 a b) (h1 : a ≤ c) (h2 : b ≤ d) : Near s1 s2 c d := ⟨by have := h.1; omega, by have := h.2; omega⟩
theorem put_near (st : MS) (s : List UInt8) : Near st (putS gs st s) (18 + s.length) 1 := by
  have := gapK_len gs st.2
  refine ⟨?_, ?_⟩
  · show (st.1 ++ gapK gs st.2 ++ s).length ≤ _
    rw [List.length_append, List.length_append]; omega
  · show nxtK gs st.2 ≤ _
    unfold nxtK; split <;> omega
theorem term_near {t : TT} (h : OkI t.2) (st : MS) : Near st (mkTerm gs t st).2 82 1 := by
  obtain ⟨-, -, -, -, -, -, -, -, h6, -⟩ := term_ok h
  exact (put_near st (termS t)).le (by omega) (Nat.le_refl _)
theorem args_near {gr : Bool} {l : List TT} {st : MS} (hl : ∀ t ∈ l, OkI t.2) : ∀ i, Near st (argsS gs gr l st i).2 (101 * i) (2 * i)
  | 0 => ⟨Nat.le_refl _, Nat.le_refl _⟩
  | i + 1 => by
    have h1 := args_near (gr := gr) (st := st) hl i
    have h2 := put_near (gs := gs) (argsS gs gr l st i).2 (if i = 0 then [40] else [44])
    have h3 := term_near (gs := gs) (gnd_ok (gr := gr) (getD_ok hl i)).1 (putS gs (argsS gs gr l st i).2 (if i = 0 then [40] else [44]))
    have hs : (if i = 0 then ([40] : List UInt8) else [44]).length = 1 := by split <;> rfl
    exact ((h1.trans h2).trans h3).le (by omega) (by omega)
theorem atom_near {gr : Bool} {a : AA} {st : MS} (ha : OkAA a) : Near st (mkAtom gs gr a st).2 1000 20 := by
  have hn := (word_shape (name_ok a.1)).1
  have h1 := put_near (gs := gs) st (nameS a.1)
  have h2 := args_near (gs := gs) (gr := gr) (st := putS gs st (nameS a.1)) ha (min a.2.length 8)
  have h12 := h1.trans h2
  unfold mkAtom
  simp only
  split
  · exact h12.le (by omega) (by omega)
  · refine (h12.trans (put_near _ [41])).le ?_ (by omega)
    simp only [List.length_cons, List.length_nil]; omega
theorem lit_near {l : LL} {st : MS} (hl : OkLL l) : Near st (mkLit gs l st).2 1100 30 := by
  obtain ⟨la, ll, lr⟩ := hl
  unfold mkLit
  split
  · exact (atom_near la).le (by omega) (by omega)
  · split
    · have h1 := put_near (gs := gs) st [110, 111, 116]
      have h2 : Near (putS gs st [110, 111, 116]) ((putS gs st [110, 111, 116]).1 ++ [32], (putS gs st [110, 111, 116]).2) 1 0 := ⟨by simp, Nat.le_refl _⟩
      refine ((h1.trans h2).trans (atom_near la)).le ?_ (by omega)
      simp only [List.length_cons, List.length_nil]; omega
    · have h1 := term_near (gs := gs) ll st
      have h2 := put_near (gs := gs) (mkTerm gs l.2.2.2.1 st).2 (opS l.2.2.1)
      have h3 := op_len l.2.2.1
      exact ((h1.trans h2).trans (term_near lr _)).le (by omega) (by omega)
theorem bodyS_near {l : List LL} {st : MS} (hl : ∀ t ∈ l, OkLL t) : ∀ i, Near st (bodyS gs l st i).2 (1119 * i) (31 * i)
  | 0 => ⟨Nat.le_refl _, Nat.le_refl _⟩
  | i + 1 => by
    have h1 := bodyS_near (st := st) hl i
    have h2 : Near (bodyS gs l st i).2 (if i = 0 then (bodyS gs l st i).2 else putS gs (bodyS gs l st i).2 [44]) 19 1 := by
      split
      · exact ⟨by omega, by omega⟩
      · exact put_near _ _
    exact ((h1.trans h2).trans (lit_near (getD_okL hl i))).le (by omega) (by omega)
theorem body_near {l : List LL} {st : MS} (hl : ∀ t ∈ l, OkLL t) : Near st (mkBody gs l st).2 18000 500 := (bodyS_near hl _).le (by omega) (by omega)
theorem clause_near {c : CC} {st : MS} (hc : OkCC c) : Near st (mkClause gs c st).2 20000 600 := by
  have ha := atom_near (gs := gs) (gr := false) (st := st) hc.1
  unfold mkClause
  split
  · refine (ha.trans (put_near _ [46])).le ?_ (by omega)
    simp only [List.length_cons, List.length_nil]; omega
  · refine (((ha.trans (put_near _ [58, 45])).trans (body_near hc.2)).trans (put_near _ [46])).le ?_ (by omega)
    simp only [List.length_cons, List.length_nil]; omega
theorem prog_near {l : List CC} (hl : ∀ t ∈ l, OkCC t) : ∀ i, (progS gs l i).2.1.length ≤ 20000 * i ∧ (progS gs l i).2.2 ≤ 600 * i
  | 0 => ⟨Nat.le_refl _, Nat.le_refl _⟩
  | i + 1 => by
    have h1 := prog_near hl i
    have h2 := clause_near (gs := gs) (st := (progS gs l i).2) (getD_okC hl i)
    exact ⟨Nat.le_trans h2.1 (by omega), Nat.le_trans h2.2 (by omega)⟩
theorem facts_near {l : List CC} (hl : ∀ t ∈ l, OkCC t) : ∀ i, (factsS gs l i).2.1.length ≤ 20000 * i ∧ (factsS gs l i).2.2 ≤ 600 * i
  | 0 => ⟨Nat.le_refl _, Nat.le_refl _⟩
  | i + 1 => by
    have h1 := facts_near hl i
    have h2 := (atom_near (gs := gs) (gr := true) (st := (factsS gs l i).2) (getD_okC hl i).1).trans (put_near (gs := gs) (mkAtom gs true (l.getD i noCC).1 (factsS gs l i).2).2 [46])
    exact ⟨Nat.le_trans h2.1 (by simp only [List.length_cons, List.length_nil]; omega), Nat.le_trans h2.2 (by omega)⟩
/-! ### An atom made behind a text is the atom made alone, moved -/
def Moved (x : List UInt8) (a b : AtomT × MS) : Prop := a.2 = (x ++ b.2.1, b.2.2) ∧ a.1.1 = b.1.1 ∧ a.1.2.1.map (fun t => (t.1, t.2.1, t.2.2.1)) = b.1.2.1.map (fun t => (t.1, t.2.1, t.2.2.1))
theorem put_move (x : List UInt8) (st : MS) (s : List UInt8) : putS gs (x ++ st.1, st.2) s = (x ++ (putS gs st s).1, (putS gs st s).2) := by
  unfold putS; simp
theorem termV_same (t : TT) (o o' : Int) : (termV t o).1 = (termV t o').1 ∧ (termV t o).2.1 = (termV t o').2.1 ∧ (termV t o).2.2.1 = (termV t o').2.2.1 := by
  unfold termV
  repeat' split
  all_goals exact ⟨rfl, rfl, rfl⟩
theorem args_move (x : List UInt8) (gr : Bool) (l : List TT) (st : MS) : ∀ i, (argsS gs gr l (x ++ st.1, st.2) i).2 = (x ++ (argsS gs gr l st i).2.1, (argsS gs gr l st i).2.2) ∧ (argsS gs gr l (x ++ st.1, st.2) i).1.map (fun t => (t.1, t.2.1, t.2.2.1)) = (argsS gs gr l st i).1.map (fun t => (t.1, t.2.1, t.2.2.1))
  | 0 => ⟨rfl, rfl⟩
  | i + 1 => by
    obtain ⟨h1, h2⟩ := args_move x gr l st i
    refine ⟨?_, ?_⟩
    · show putS gs (putS gs (argsS gs gr l (x ++ st.1, st.2) i).2 _) _ = _
      rw [h1, put_move, put_move]
      rfl
    · show ((argsS gs gr l (x ++ st.1, st.2) i).1 ++ [_]).map _ = ((argsS gs gr l st i).1 ++ [_]).map _
      rw [List.map_append, List.map_append, h2]
      congr 1
      obtain ⟨a, b, c⟩ := termV_same (gndT gr (l.getD i (0, 0))) (offS gs (putS gs (argsS gs gr l (x ++ st.1, st.2) i).2 (if i = 0 then [40] else [44]))) (offS gs (putS gs (argsS gs gr l st i).2 (if i = 0 then [40] else [44])))
      simp only [List.map_cons, List.map_nil, mkTerm]
      rw [a, b, c]
theorem atom_move (x : List UInt8) (gr : Bool) (a : AA) (k : Nat) : Moved x (mkAtom gs gr a (x, k)) (mkAtom gs gr a ([], k)) := by
  have hp : putS gs (x, k) (nameS a.1) = (x ++ (putS gs ([], k) (nameS a.1)).1, (putS gs ([], k) (nameS a.1)).2) := by
    have := put_move (gs := gs) x ([], k) (nameS a.1)
    rw [List.append_nil] at this
    exact this
  obtain ⟨h1, h2⟩ := args_move (gs := gs) x gr a.2 (putS gs ([], k) (nameS a.1)) (min a.2.length 8)
  unfold mkAtom
  rw [hp]
  refine ⟨?_, rfl, h2⟩
  simp only
  split
  · exact h1
  · rw [h1, put_move]
end
end Edict
