/- The laws' own: taken, ground; facts texts and programs of ground facts. -/
import Derived.Test.YtmnfhmbmifompaaDoorPlC
import Derived.Test.YtmnfhmbmifompaaDoorPlT
import Derived.Test.YtmnfhmbmifompaaDoorPsQy
import Derived.Test.YtmnfhmbmifompaaDoorPsPg
namespace Edict
open Go
def takenT : List UInt8 := [112, 40, 97, 41, 58, 45, 88, 60, 49, 46]
theorem taken_scan : scanF takenT = ([(1, [112], 0, 0, 0, 1), (5, [], 0, 0, 1, 2), (1, [97], 0, 0, 2, 3), (6, [], 0, 0, 3, 4), (9, [], 0, 0, 4, 6), (2, [88], 0, 0, 6, 7), (11, [], 0, 3, 7, 8), (3, [], 1, 0, 8, 9), (8, [], 0, 0, 9, 10), (0, [], 0, 0, 10, 10)], 0, 0) := by kernel_rfl
def takenL : LitT := (3, noAtom, 3, (4, 0, [88], 6), (1, 1, [], 8), 6)
def takenC : ClauseT := (([112], [(2, 0, [97], 2)], 0), [takenL])
theorem taken_prog : parseF (fun b l => progD b [] l) takenT = .ok [takenC] := by
  unfold parseF badF
  rw [if_neg (by decide), taken_scan]
  show progD (0, 0) [] _ = _
  have hl : litD (0, 0) [(2, [88], 0, 0, 6, 7), (11, [], 0, 3, 7, 8), (3, [], 1, 0, 8, 9), (8, [], 0, 0, 9, 10), (0, [], 0, 0, 10, 10)] = .ok (takenL, [(8, [], 0, 0, 9, 10), (0, [], 0, 0, 10, 10)]) := rfl
  have hb : bodyD (0, 0) [] [(2, [88], 0, 0, 6, 7), (11, [], 0, 3, 7, 8), (3, [], 1, 0, 8, 9), (8, [], 0, 0, 9, 10), (0, [], 0, 0, 10, 10)] = .ok ([takenL], [(0, [], 0, 0, 10, 10)]) := by
    rw [bodyD_on (by simp) hl]; rfl
  have hc : clauseD (0, 0) [(1, [112], 0, 0, 0, 1), (5, [], 0, 0, 1, 2), (1, [97], 0, 0, 2, 3), (6, [], 0, 0, 3, 4), (9, [], 0, 0, 4, 6), (2, [88], 0, 0, 6, 7), (11, [], 0, 3, 7, 8), (3, [], 1, 0, 8, 9), (8, [], 0, 0, 9, 10), (0, [], 0, 0, 10, 10)] = .ok (takenC, [(0, [], 0, 0, 10, 10)]) := by
    rw [clauseD_ok (a := ([112], [(2, 0, [97], 2)], 0)) (q := [(9, [], 0, 0, 4, 6), (2, [88], 0, 0, 6, 7), (11, [], 0, 3, 7, 8), (3, [], 1, 0, 8, 9), (8, [], 0, 0, 9, 10), (0, [], 0, 0, 10, 10)]) rfl]
    exact restD_9O rfl hb
  rw [progD_on (by decide) (by simp) hc, progD_end rfl]
  rfl
def groundF (cs : List ClauseT) : Bool := cs.all fun c => c.2.isEmpty && c.1.2.1.all fun t => !decide (t.1 = 4)
theorem isT_up {k : Int} (h : isT k false = true) : isT k true = true := by unfold isT at h ⊢; simp at h ⊢; omega
theorem isT_kind {t : Tok} (h : isT (tK t) false = true) : (termD t).1 ≠ 4 := by
  unfold isT at h; unfold termD; simp at h
  split
  · exact (show (1 : Int) ≠ 4 by decide)
  · split
    · exact (show (2 : Int) ≠ 4 by decide)
    · split
      · exact (show (3 : Int) ≠ 4 by decide)
      · omega
theorem isT_down {t : Tok} (h : isT (tK t) true = true) (h4 : (termD t).1 ≠ 4) : isT (tK t) false = true := by
  unfold isT at h ⊢; unfold termD at h4; simp at h ⊢
  rcases h with ((h | h) | h) | h
  · exact .inl (.inl h)
  · exact .inl (.inr h)
  · exact .inr h
  · rw [if_neg (by omega), if_neg (by omega), if_neg (by omega)] at h4
    exact absurd rfl h4
theorem argsD_up (bad : Flt) : ∀ (l : List Tok) (acc a : List TermT) (q : List Tok), argsD bad false acc l = .ok (a, q) → (∀ x ∈ acc, x.1 ≠ 4) → argsD bad true acc l = .ok (a, q) ∧ ∀ x ∈ a, x.1 ≠ 4
  | [], acc, a, q, h, _ => by unfold argsD at h; cases h
  | [t], acc, a, q, h, _ => by
    rw [argsD_cons] at h
    split at h
    · cases h
    · split at h <;> cases h
  | t :: c :: r, acc, a, q, h, ha => by
    rw [argsD_cons] at h
    split at h
    · cases h
    · rename_i h8
      split at h
      · cases h
      · rename_i hT
        have hT' : isT (tK t) false = true := by simpa using hT
        have hx : ∀ x ∈ acc ++ [termD t], x.1 ≠ 4 := fun x hx => by
          rcases List.mem_append.1 hx with hx | hx
          · exact ha x hx
          · rw [List.mem_singleton.1 hx]; exact isT_kind hT'
        rw [argsD_cons, if_neg (fun q => h8 ⟨q.1, hT'⟩), if_neg (by rw [isT_up hT']; simp)]
        simp only at h ⊢
        split at h
        · rename_i h7
          rw [if_pos h7]
          exact argsD_up bad r _ _ _ h hx
        · rename_i h7
          rw [if_neg h7]
          split at h
          · rename_i h6
            cases h
            exact ⟨by rw [if_pos h6], hx⟩
          · cases h
theorem argsD_down (bad : Flt) : ∀ (l : List Tok) (acc a : List TermT) (q : List Tok), argsD bad true acc l = .ok (a, q) → (∀ x ∈ acc, x ∈ a) ∧ ((∀ x ∈ a, x.1 ≠ 4) → argsD bad false acc l = .ok (a, q))
  | [], acc, a, q, h => by unfold argsD at h; cases h
  | [t], acc, a, q, h => by
    rw [argsD_cons] at h
    split at h
    · cases h
    · split at h <;> cases h
  | t :: c :: r, acc, a, q, h => by
    rw [argsD_cons] at h
    split at h
    · cases h
    · rename_i h8
      split at h
      · cases h
      · rename_i hT
        have hT' : isT (tK t) true = true := by simpa using hT
        simp only at h
        split at h
        · rename_i h7
          obtain ⟨i1, i2⟩ := argsD_down bad r _ _ _ h
          refine ⟨fun x hx => i1 x (List.mem_append_left _ hx), fun ha => ?_⟩
          have hd := isT_down hT' (ha _ (i1 _ (List.mem_append_right _ (List.mem_singleton.2 rfl))))
          rw [argsD_cons, if_neg (fun q => h8 ⟨q.1, hT'⟩), if_neg (by rw [hd]; simp)]
          simp only
          rw [if_pos h7]
          exact i2 ha
        · rename_i h7
          split at h
          · rename_i h6
            cases h
            refine ⟨fun x hx => List.mem_append_left _ hx, fun ha => ?_⟩
            have hd := isT_down hT' (ha _ (List.mem_append_right _ (List.mem_singleton.2 rfl)))
            rw [argsD_cons, if_neg (fun q => h8 ⟨q.1, hT'⟩), if_neg (by rw [hd]; simp)]
            simp only
            rw [if_neg h7, if_pos h6]
          · cases h
theorem atomD_up {bad : Flt} {l : List Tok} {a : AtomT} {q : List Tok} (h : atomD bad false l = .ok (a, q)) : atomD bad true l = .ok (a, q) ∧ ∀ x ∈ a.2.1, x.1 ≠ 4 := by
  cases l with
  | nil => rw [atomD] at h; cases h
  | cons t l =>
    by_cases ht : tK t = 1
    case neg => rw [atomD_no ht] at h; cases h
    cases l with
    | nil => rw [atomD_nil ht] at h; cases h
    | cons p r =>
      rw [atomD_on ht] at h ⊢
      split at h
      · rename_i hp
        rw [if_pos hp]
        cases h
        exact ⟨rfl, fun x hx => by cases hx⟩
      · rename_i hp
        rw [if_neg hp]
        split at h
        · cases h
        · rename_i a' q' ha
          cases h
          obtain ⟨i1, i2⟩ := argsD_up _ _ _ _ _ ha (fun x hx => by cases hx)
          rw [i1]
          exact ⟨rfl, i2⟩
theorem atomD_down {bad : Flt} {l : List Tok} {a : AtomT} {q : List Tok} (h : atomD bad true l = .ok (a, q)) (h4 : ∀ x ∈ a.2.1, x.1 ≠ 4) : atomD bad false l = .ok (a, q) := by
  cases l with
  | nil => rw [atomD] at h; cases h
  | cons t l =>
    by_cases ht : tK t = 1
    case neg => rw [atomD_no ht] at h; cases h
    cases l with
    | nil => rw [atomD_nil ht] at h; cases h
    | cons p r =>
      rw [atomD_on ht] at h ⊢
      split at h
      · rename_i hp
        rw [if_pos hp]
        exact h
      · rename_i hp
        rw [if_neg hp]
        split at h
        · cases h
        · rename_i a' q' ha
          cases h
          rw [(argsD_down _ _ _ _ _ ha).2 h4]
theorem bodyD_ne_nil {bad : Flt} : ∀ {l : List Tok} {acc a : List LitT} {q : List Tok}, bodyD bad acc l = .ok (a, q) → a ≠ []
  | [], acc, a, q, h => by rw [bodyD_nil] at h; cases h
  | t :: l, acc, a, q, h => by
    by_cases hf : 16 ≤ acc.length ∧ (tK t = 10 ∨ isT (tK t) true = true)
    · rw [bodyD_full hf] at h; cases h
    · cases he : litD bad (t :: l) with
      | error e => rw [bodyD_err hf he] at h; cases h
      | ok xq =>
        obtain ⟨x, r⟩ := xq
        rw [bodyD_on hf he] at h
        have hl := litD_len he
        cases r with
        | nil => rw [litsD_nil] at h; cases h
        | cons c r =>
          rw [litsD_cons] at h
          simp only [List.length_cons] at hl
          split at h
          · exact bodyD_ne_nil (l := r) h
          · split at h
            · cases h; simp
            · cases h
termination_by l => l.length
decreasing_by simp only [List.length_cons] at *; omega
def factC (a : AtomT) : ClauseT := (a, [])
theorem fact_up {bad : Flt} {l : List Tok} {a : AtomT} {q : List Tok} (h : factD1 bad l = .ok (a, q)) : clauseD bad l = .ok (factC a, q) ∧ ∀ x ∈ a.2.1, x.1 ≠ 4 := by
  cases ha : atomD bad false l with
  | error e => rw [factD1_err ha] at h; cases h
  | ok aq =>
    obtain ⟨a', q'⟩ := aq
    rw [factD1_ok ha] at h
    obtain ⟨i1, i2⟩ := atomD_up ha
    rw [clauseD_ok i1]
    cases q' with
    | nil => cases h
    | cons c r =>
      by_cases h8 : tK c = 8
      · rw [dotD_ok h8] at h
        cases h
        exact ⟨restD_8 h8, i2⟩
      · rw [dotD_no h8] at h; cases h
theorem fact_down {bad : Flt} {l : List Tok} {c : ClauseT} {q : List Tok} (h : clauseD bad l = .ok (c, q)) (hb : c.2 = []) (h4 : ∀ x ∈ c.1.2.1, x.1 ≠ 4) : factD1 bad l = .ok (c.1, q) := by
  cases ha : atomD bad true l with
  | error e => rw [clauseD_err ha] at h; cases h
  | ok aq =>
    obtain ⟨a', q'⟩ := aq
    rw [clauseD_ok ha] at h
    cases q' with
    | nil => cases h
    | cons d r =>
      by_cases h8 : tK d = 8
      · rw [restD_8 h8] at h
        cases h
        rw [factD1_ok (atomD_down ha h4)]
        exact dotD_ok h8
      · by_cases h9 : tK d = 9
        · cases hbd : bodyD bad [] r with
          | error e => rw [restD_9E h9 hbd] at h; cases h
          | ok bp =>
            obtain ⟨b, p⟩ := bp
            rw [restD_9O h9 hbd] at h
            cases h
            simp only at hb
            subst hb
            exact absurd rfl (bodyD_ne_nil hbd)
        · rw [restD_no h8 h9] at h; cases h
theorem factsD_up {bad : Flt} : ∀ (n : Nat) (l : List Tok) (acc fs : List AtomT), l.length ≤ n → factsD bad acc l = .ok fs → (∀ a ∈ acc, ∀ x ∈ a.2.1, x.1 ≠ 4) → acc.length ≤ fs.length ∧ (∀ a ∈ fs, ∀ x ∈ a.2.1, x.1 ≠ 4) ∧ (fs.length ≤ 512 → progD bad (acc.map factC) l = .ok (fs.map factC))
  | n, [], acc, fs, hn, h, _ => by rw [factsD_nil] at h; cases h
  | 0, t :: l, acc, fs, hn, h, _ => by simp at hn
  | n + 1, t :: l, acc, fs, hn, h, hg => by
    by_cases h0 : tK t = 0
    · rw [factsD_end h0] at h
      cases h
      exact ⟨Nat.le_refl _, hg, fun _ => progD_end h0⟩
    by_cases hf : 4096 ≤ acc.length ∧ tK t = 1
    · rw [factsD_full h0 hf] at h; cases h
    cases he : factD1 bad (t :: l) with
    | error e => rw [factsD_err h0 hf he] at h; cases h
    | ok xq =>
      obtain ⟨x, q⟩ := xq
      rw [factsD_on h0 hf he] at h
      have hl := factD1_len he
      obtain ⟨c1, c2⟩ := fact_up he
      obtain ⟨i1, i2, i3⟩ := factsD_up n q (acc ++ [x]) fs (by simp only [List.length_cons] at hn hl; omega) h (fun a ha => by
        rcases List.mem_append.1 ha with ha | ha
        · exact hg a ha
        · rw [List.mem_singleton.1 ha]; exact c2)
      simp only [List.length_append, List.length_cons, List.length_nil] at i1
      refine ⟨by omega, i2, fun h5 => ?_⟩
      rw [progD_on h0 (fun q => by have := q.1; rw [List.length_map] at this; omega) c1]
      have := i3 h5
      rwa [List.map_append, List.map_cons, List.map_nil] at this
theorem groundF_nil : groundF [] = true := rfl
theorem groundF_snoc {l : List ClauseT} {c : ClauseT} : groundF (l ++ [c]) = (groundF l && (c.2.isEmpty && c.1.2.1.all fun t => !decide (t.1 = 4))) := by unfold groundF; rw [List.all_append]; simp
theorem groundF_mem {l : List ClauseT} (h : groundF l = true) {c : ClauseT} (hc : c ∈ l) : c.2 = [] ∧ ∀ x ∈ c.1.2.1, x.1 ≠ 4 := by
  unfold groundF at h
  have := List.all_eq_true.1 h c hc
  rw [Bool.and_eq_true] at this
  refine ⟨List.isEmpty_iff.1 this.1, fun x hx => ?_⟩
  have := List.all_eq_true.1 this.2 x hx
  simpa using this
theorem groundF_of {fs : List AtomT} (h : ∀ a ∈ fs, ∀ x ∈ a.2.1, x.1 ≠ 4) : groundF (fs.map factC) = true := by
  unfold groundF
  rw [List.all_eq_true]
  intro c hc
  obtain ⟨a, ha, rfl⟩ := List.mem_map.1 hc
  rw [Bool.and_eq_true]
  refine ⟨rfl, List.all_eq_true.2 fun x hx => ?_⟩
  have := h a ha x hx
  simpa using this
theorem progD_down {bad : Flt} : ∀ (n : Nat) (l : List Tok) (acc cs : List ClauseT), l.length ≤ n → progD bad acc l = .ok cs → (∀ c ∈ acc, c ∈ cs) ∧ (groundF cs = true → factsD bad (acc.map (·.1)) l = .ok (cs.map (·.1)))
  | n, [], acc, cs, hn, h => by rw [progD_nil] at h; cases h
  | 0, t :: l, acc, cs, hn, h => by simp at hn
  | n + 1, t :: l, acc, cs, hn, h => by
    by_cases h0 : tK t = 0
    · rw [progD_end h0] at h
      cases h
      exact ⟨fun c hc => hc, fun _ => factsD_end h0⟩
    by_cases hf : 512 ≤ acc.length ∧ tK t = 1
    · rw [progD_full h0 hf] at h; cases h
    cases he : clauseD bad (t :: l) with
    | error e => rw [progD_err h0 hf he] at h; cases h
    | ok xq =>
      obtain ⟨x, q⟩ := xq
      rw [progD_on h0 hf he] at h
      have hl := clauseD_len he
      have h1 : tK t = 1 := by
        refine Classical.byContradiction fun h1 => ?_
        rw [clauseD_err (atomD_no h1)] at he
        cases he
      obtain ⟨i1, i2⟩ := progD_down n q (acc ++ [x]) cs (by simp only [List.length_cons] at hn hl; omega) h
      refine ⟨fun c hc => i1 c (List.mem_append_left _ hc), fun hg => ?_⟩
      obtain ⟨g1, g2⟩ := groundF_mem hg (i1 x (List.mem_append_right _ (List.mem_singleton.2 rfl)))
      rw [factsD_on h0 (fun q => hf ⟨by have := q.1; rw [List.length_map] at this; omega, h1⟩) (fact_down he g1 g2)]
      have := i2 hg
      rwa [List.map_append, List.map_cons, List.map_nil] at this
def resProg (src : List UInt8) : List ClauseT × Flt := match parseF (fun b l => progD b [] l) src with | .error e => ([], e) | .ok a => (a, (0, 0))
def resFacs (src : List UInt8) : List AtomT × Flt := match parseF (fun b l => factsD b [] l) src with | .error e => ([], e) | .ok a => (a, (0, 0))
theorem resProg_cases (src : List UInt8) : (∃ e, resProg src = ([], e) ∧ e.1 ≠ 0 ∧ parseF (fun b l => progD b [] l) src = .error e) ∨ ∃ a, resProg src = (a, (0, 0)) ∧ parseF (fun b l => progD b [] l) src = .ok a := by
  cases h : parseF (fun b l => progD b [] l) src with
  | error e => exact .inl ⟨e, by unfold resProg; rw [h], parseF_ne (r := fun b l => progD b [] l) (fun bad l hg e he => progD_ne bad l hg e he) h, rfl⟩
  | ok a => exact .inr ⟨a, by unfold resProg; rw [h], rfl⟩
theorem resFacs_cases (src : List UInt8) : (∃ e, resFacs src = ([], e) ∧ e.1 ≠ 0 ∧ parseF (fun b l => factsD b [] l) src = .error e) ∨ ∃ a, resFacs src = (a, (0, 0)) ∧ parseF (fun b l => factsD b [] l) src = .ok a := by
  cases h : parseF (fun b l => factsD b [] l) src with
  | error e => exact .inl ⟨e, by unfold resFacs; rw [h], parseF_ne (r := fun b l => factsD b [] l) (fun bad l hg e he => factsD_ne bad l hg e he) h, rfl⟩
  | ok a => exact .inr ⟨a, by unfold resFacs; rw [h], rfl⟩
theorem resProg_len (src : List UInt8) : (resProg src).1.length ≤ 512 := by
  rcases resProg_cases src with ⟨e, h, -, -⟩ | ⟨a, h, h2⟩
  · rw [h]; simp
  · rw [h]
    unfold parseF at h2
    by_cases hl : 65536 < src.length
    · rw [if_pos hl] at h2; cases h2
    · rw [if_neg hl] at h2
      exact ((prog_same (good_src (by omega))).2 a h2).2.2.1
theorem resFacs_len (src : List UInt8) : (resFacs src).1.length ≤ 4096 := by
  rcases resFacs_cases src with ⟨e, h, -, -⟩ | ⟨a, h, h2⟩
  · rw [h]; simp
  · rw [h]
    unfold parseF at h2
    by_cases hl : 65536 < src.length
    · rw [if_pos hl] at h2; cases h2
    · rw [if_neg hl] at h2
      exact ((facts_same (good_src (by omega))).2 a h2).2.2.1
/-- A facts text is a program of its facts. -/
theorem ground_up {src : List UInt8} (h : (resFacs src).2 = (0, 0)) (hl : (resFacs src).1.length ≤ 512) : (resProg src).2 = (0, 0) ∧ groundF (resProg src).1 = true := by
  rcases resFacs_cases src with ⟨e, q, hne, -⟩ | ⟨a, q, hp⟩
  · rw [q] at h; simp only at h; rw [h] at hne; exact absurd rfl hne
  · rw [q] at hl
    unfold parseF at hp
    by_cases h6 : 65536 < src.length
    · rw [if_pos h6] at hp; cases hp
    · rw [if_neg h6] at hp
      obtain ⟨-, i2, i3⟩ := factsD_up _ _ [] a (Nat.le_refl _) hp (fun a ha => by cases ha)
      have i4 : parseF (fun b l => progD b [] l) src = .ok (a.map factC) := by unfold parseF; rw [if_neg h6]; exact i3 hl
      have i5 : resProg src = (a.map factC, (0, 0)) := by unfold resProg; rw [i4]
      rw [i5]
      exact ⟨rfl, groundF_of i2⟩
theorem ground_down {src : List UInt8} (h : (resProg src).2 = (0, 0)) (hg : groundF (resProg src).1 = true) : resFacs src = ((resProg src).1.map (·.1), (0, 0)) := by
  rcases resProg_cases src with ⟨e, q, hne, -⟩ | ⟨a, q, hp⟩
  · rw [q] at h; simp only at h; rw [h] at hne; exact absurd rfl hne
  · rw [q] at hg ⊢
    unfold parseF at hp
    by_cases h6 : 65536 < src.length
    · rw [if_pos h6] at hp; cases hp
    · rw [if_neg h6] at hp
      obtain ⟨-, i2⟩ := progD_down _ _ [] a (Nat.le_refl _) hp
      have i4 : parseF (fun b l => factsD b [] l) src = .ok (a.map (·.1)) := by unfold parseF; rw [if_neg h6]; exact i2 hg
      unfold resFacs
      rw [i4]
def resQry (src : List UInt8) : List LitT × Flt := match parseF queryD src with | .error e => ([], e) | .ok a => (a, (0, 0))
theorem resQry_cases (src : List UInt8) : (∃ e, resQry src = ([], e) ∧ e.1 ≠ 0 ∧ parseF queryD src = .error e) ∨ ∃ a, resQry src = (a, (0, 0)) ∧ parseF queryD src = .ok a := by
  cases h : parseF queryD src with
  | error e => exact .inl ⟨e, by unfold resQry; rw [h], parseF_ne (r := queryD) (fun bad l hg e he => queryD_ne bad l hg e he) h, rfl⟩
  | ok a => exact .inr ⟨a, by unfold resQry; rw [h], rfl⟩
end Edict
