/- Plain facts: the tokens that a tree spells; a refusal's place. -/
import Derived.Test.YtmnfhmbmifompaaDoorPlE
namespace Edict
open Go
def WfT (t : Tok) : Prop := (t.1 = 3 → t.2.1 = []) ∧ (t.1 ≠ 3 → t.2.2.1 = 0)
theorem wf_3 {n p o e : Int} : WfT (3, [], n, p, o, e) := ⟨fun _ => rfl, fun q => absurd rfl q⟩
theorem wf_0 {c : Int} {v : List UInt8} {p o e : Int} (h : c ≠ 3) : WfT (c, v, 0, p, o, e) := ⟨fun q => absurd q h, fun _ => rfl⟩
theorem ite_ok3 {q : Prop} [Decidable q] {k op : Int} {o n : Nat} {x : TR} {t : Tok} (h : (if q then sgn k op o n else x) = .ok t) : t = (k, [], 0, op, (o : Int), ((o + n : Nat) : Int)) ∨ x = .ok t := by
  split at h
  · cases h; exact .inl rfl
  · exact .inr h
theorem tok_wf {s : List UInt8} {o : Nat} {t : Tok} (h : tokF s o = .ok t) : WfT t := by
  unfold tokF at h
  split at h
  · cases h; exact wf_0 (by decide)
  split at h
  · unfold intF at h
    repeat' split at h
    all_goals first | (cases h; done) | (cases h; exact wf_3)
  split at h
  · unfold intF at h
    repeat' split at h
    all_goals first | (cases h; done) | (cases h; exact wf_3)
  split at h
  · unfold wordF at h
    repeat' split at h
    all_goals first | (cases h; done) | (cases h; exact wf_0 (by decide))
  split at h
  · obtain ⟨e, v, rfl, -, -⟩ := txt_ok h; exact wf_0 (by decide)
  unfold signF at h
  iterate 11
    rcases ite_ok3 h with rfl | h
    · exact wf_0 (by decide)
  cases h
theorem scan_wf {s : List UInt8} : ∀ t ∈ (scanF s).1, WfT t := by
  by_cases h16 : s.length ≤ 65536
  case neg => unfold scanF; rw [if_pos (by omega)]; intro t ht; cases ht
  have hs : scanF s = scanK s 0 := by unfold scanF scanK; rw [if_neg (by omega)]
  rw [hs]
  have key : ∀ (l : List Tok) (k : Nat) (f : Int × Nat), k ≤ s.length → scanK s k = (l, f) → ∀ t ∈ l, WfT t := by
    intro l
    induction l with
    | nil => intro k f _ _ t ht; cases ht
    | cons x l ih =>
      intro k f hk h t ht
      obtain ⟨h1, h2⟩ := scan_cons hk h
      have hx : WfT x := by
        unfold nextF at h1
        split at h1
        · exact tok_wf h1
        · cases h1
      rcases List.mem_cons.1 ht with hx' | ht'
      · rw [hx']; exact hx
      · rcases h2 with ⟨-, rfl, -⟩ | ⟨h3, h4⟩
        · cases ht'
        · obtain ⟨c, v, n, p, o, e, rfl, q1, q2, q3, q4⟩ := next_ok hk h1
          exact ih e f q2 h4 t ht'
  intro t ht
  exact key _ 0 (scanK s 0).2 (Nat.zero_le _) rfl t ht
/-! ### What a tree spells -/
def RestOk : Bool → List TermT → List Tok → List Tok → Prop
  | _, [], l, q => ∃ c, l = c :: q ∧ tK c = 6
  | f, x :: xs, l, q => ∃ s t m, l = s :: t :: m ∧ tK s = (if f then 5 else 7) ∧ isT (tK t) true = true ∧ x = termD t ∧ RestOk false xs m q
def AtomOk (x : AtomT) (l q : List Tok) : Prop := ∃ t m, l = t :: m ∧ tK t = 1 ∧ tX t = x.1 ∧ tO t = x.2.2 ∧ ((x.2.1 = [] ∧ q = m) ∨ (x.2.1 ≠ [] ∧ RestOk true x.2.1 m q))
def Bare (x : LitT) : Prop := x.2.2.1 = 0 ∧ x.2.2.2.1 = noTerm ∧ x.2.2.2.2.1 = noTerm
def LitOk (x : LitT) (l q : List Tok) : Prop := x.2.1.2.1.length ≤ 8 ∧ ((x.1 = 1 ∧ Bare x ∧ x.2.2.2.2.2 = x.2.1.2.2 ∧ AtomOk x.2.1 l q) ∨
  (x.1 = 2 ∧ Bare x ∧ ∃ t m, l = t :: m ∧ tK t = 10 ∧ x.2.2.2.2.2 = tO t ∧ AtomOk x.2.1 m q) ∨
  (x.1 = 3 ∧ x.2.1 = noAtom ∧ ∃ t o y, l = t :: o :: y :: q ∧ isT (tK t) true = true ∧ x.2.2.2.1 = termD t ∧ tK o = 11 ∧ x.2.2.1 = tP o ∧ isT (tK y) true = true ∧ x.2.2.2.2.1 = termD y ∧ x.2.2.2.2.2 = tO t))
def BodyOk : Bool → List LitT → List Tok → List Tok → Prop
  | _, [], l, q => ∃ c, l = c :: q ∧ tK c = 8
  | f, x :: xs, l, q => ∃ m n, (if f then l = m else ∃ s, l = s :: m ∧ tK s = 7) ∧ LitOk x m n ∧ BodyOk false xs n q
def ClauseOk (c : ClauseT) (l q : List Tok) : Prop := c.1.2.1.length ≤ 8 ∧ ∃ m, AtomOk c.1 l m ∧ ((c.2 = [] ∧ ∃ d, m = d :: q ∧ tK d = 8) ∨ (c.2 ≠ [] ∧ c.2.length ≤ 16 ∧ ∃ d n, m = d :: n ∧ tK d = 9 ∧ BodyOk true c.2 n q))
def ProgOk : List ClauseT → List Tok → Prop
  | [], l => ∃ e, l = [e] ∧ tK e = 0
  | c :: cs, l => ∃ m, ClauseOk c l m ∧ ProgOk cs m
theorem args_ok (bad : Flt) (v : Bool) : ∀ (l : List Tok) (acc a : List TermT) (q : List Tok), argsD bad v acc l = .ok (a, q) → ∃ ys, a = acc ++ ys ∧ ys ≠ [] ∧ ∀ f s, tK s = (if f then 5 else 7) → RestOk f ys (s :: l) q
  | [], acc, a, q, h => by unfold argsD at h; cases h
  | [t], acc, a, q, h => by
    rw [argsD_cons] at h
    split at h
    · cases h
    · split at h <;> cases h
  | t :: c :: r, acc, a, q, h => by
    rw [argsD_cons] at h
    split at h
    · cases h
    · split at h
      · cases h
      · rename_i hT
        have hT' : isT (tK t) true = true := by
          cases v with
          | true => simpa using hT
          | false => exact isT_up (by simpa using hT)
        simp only at h
        split at h
        · rename_i h7
          obtain ⟨ys, e1, e2, e3⟩ := args_ok bad v r _ _ _ h
          refine ⟨termD t :: ys, by rw [e1, List.append_assoc]; rfl, by simp, fun f s hs => ⟨s, t, c :: r, rfl, hs, hT', rfl, e3 false c h7⟩⟩
        · split at h
          · rename_i h6
            cases h
            exact ⟨[termD t], rfl, by simp, fun f s hs => ⟨s, t, c :: r, rfl, hs, hT', rfl, c, rfl, h6⟩⟩
          · cases h
theorem atom_ok {bad : Flt} {v : Bool} {l : List Tok} {a : AtomT} {q : List Tok} (h : atomD bad v l = .ok (a, q)) : AtomOk a l q := by
  cases l with
  | nil => rw [atomD] at h; cases h
  | cons t l =>
    by_cases ht : tK t = 1
    case neg => rw [atomD_no ht] at h; cases h
    cases l with
    | nil => rw [atomD_nil ht] at h; cases h
    | cons p r =>
      rw [atomD_on ht] at h
      split at h
      · cases h
        exact ⟨t, p :: r, rfl, ht, rfl, rfl, .inl ⟨rfl, rfl⟩⟩
      · rename_i hp
        split at h
        · cases h
        · rename_i a' q' ha
          cases h
          obtain ⟨ys, e1, e2, e3⟩ := args_ok _ _ _ _ _ _ ha
          rw [List.nil_append] at e1
          subst e1
          exact ⟨t, p :: r, rfl, ht, rfl, rfl, .inr ⟨e2, e3 true p (by simpa using hp)⟩⟩
theorem lit_ok {bad : Flt} {l : List Tok} {x : LitT} {q : List Tok} (h : litD bad l = .ok (x, q)) : LitOk x l q := by
  cases l with
  | nil => rw [litD_nil] at h; cases h
  | cons t l =>
    by_cases h10 : tK t = 10
    · cases ha : atomD bad true l with
      | error e => rw [litD_notE h10 ha] at h; cases h
      | ok aq =>
        obtain ⟨a, q'⟩ := aq
        rw [litD_notO h10 ha] at h
        cases h
        exact ⟨atomD_most ha, .inr (.inl ⟨rfl, ⟨rfl, rfl, rfl⟩, t, l, rfl, h10, rfl, atom_ok ha⟩)⟩
    by_cases h1 : tK t = 1 ∧ opBeh l = false
    · cases ha : atomD bad true (t :: l) with
      | error e => rw [litD_posE h10 h1 ha] at h; cases h
      | ok aq =>
        obtain ⟨a, q'⟩ := aq
        rw [litD_posO h10 h1 ha] at h
        cases h
        have hk := atom_ok ha
        refine ⟨atomD_most ha, .inl ⟨rfl, ⟨rfl, rfl, rfl⟩, ?_, hk⟩⟩
        obtain ⟨t', m, e, -, -, e2, -⟩ := hk
        cases e
        exact e2
    rw [litD_test h10 h1] at h
    cases hT : isT (tK t) true with
    | false => rw [testD_1 hT] at h; cases h
    | true =>
      cases l with
      | nil => rw [testD_2 hT] at h; cases h
      | cons o r =>
        by_cases ho : tK o = 11
        case neg => rw [testD_3 hT ho] at h; cases h
        cases r with
        | nil => rw [testD_4 hT ho] at h; cases h
        | cons y r =>
          cases hy : isT (tK y) true with
          | false => rw [testD_5 hT ho hy] at h; cases h
          | true =>
            rw [testD_6 hT ho hy] at h
            cases h
            exact ⟨by simp [noAtom], .inr (.inr ⟨rfl, rfl, t, o, y, rfl, hT, rfl, ho, rfl, hy, rfl, rfl⟩)⟩
theorem body_ok {bad : Flt} : ∀ (n : Nat) (l : List Tok) (acc a : List LitT) (q : List Tok), l.length ≤ n → acc.length ≤ 16 → bodyD bad acc l = .ok (a, q) → a.length ≤ 16 ∧ ∃ x xs m, a = acc ++ x :: xs ∧ LitOk x l m ∧ BodyOk false xs m q
  | n, [], acc, a, q, _, _, h => by rw [bodyD_nil] at h; cases h
  | 0, t :: l, acc, a, q, hn, _, h => by simp at hn
  | n + 1, t :: l, acc, a, q, hn, hacc, h => by
    by_cases hf : 16 ≤ acc.length ∧ (tK t = 10 ∨ isT (tK t) true = true)
    · rw [bodyD_full hf] at h; cases h
    · cases he : litD bad (t :: l) with
      | error e => rw [bodyD_err hf he] at h; cases h
      | ok xq =>
        obtain ⟨x, r⟩ := xq
        have hlt : acc.length < 16 := by
          refine Classical.byContradiction fun hge => ?_
          have hb : begB (tK t) = false := by
            cases hb : begB (tK t) with
            | false => rfl
            | true => exact absurd ⟨by omega, begB_on hb⟩ hf
          obtain ⟨e, he'⟩ := lit_begins (bad := bad) (l := l) hb
          rw [he'] at he; cases he
        rw [bodyD_on hf he] at h
        have hl := litD_len he
        have hok := lit_ok he
        cases r with
        | nil => rw [litsD_nil] at h; cases h
        | cons c r =>
          rw [litsD_cons] at h
          simp only [List.length_cons] at hl hn
          split at h
          · rename_i h7
            obtain ⟨i1, y, ys, m, e1, e2, e3⟩ := body_ok n r (acc ++ [x]) a q (by omega) (by simp; omega) h
            exact ⟨i1, x, y :: ys, c :: r, by rw [e1, List.append_assoc]; rfl, hok, r, m, ⟨c, rfl, h7⟩, e2, e3⟩
          · split at h
            · rename_i h8
              cases h
              exact ⟨by simp; omega, x, [], _, rfl, hok, c, rfl, h8⟩
            · cases h
theorem clause_ok {bad : Flt} {l : List Tok} {c : ClauseT} {q : List Tok} (h : clauseD bad l = .ok (c, q)) : ClauseOk c l q := by
  cases ha : atomD bad true l with
  | error e => rw [clauseD_err ha] at h; cases h
  | ok aq =>
    obtain ⟨a, m⟩ := aq
    rw [clauseD_ok ha] at h
    cases m with
    | nil => cases h
    | cons d r =>
      by_cases h8 : tK d = 8
      · rw [restD_8 h8] at h
        cases h
        exact ⟨atomD_most ha, _, atom_ok ha, .inl ⟨rfl, d, rfl, h8⟩⟩
      · by_cases h9 : tK d = 9
        · cases hb : bodyD bad [] r with
          | error e => rw [restD_9E h9 hb] at h; cases h
          | ok bp =>
            obtain ⟨b, p⟩ := bp
            rw [restD_9O h9 hb] at h
            cases h
            obtain ⟨i1, x, xs, m, e1, e2, e3⟩ := body_ok _ _ [] _ _ (Nat.le_refl _) (by simp) hb
            rw [List.nil_append] at e1
            refine ⟨atomD_most ha, d :: r, atom_ok ha, .inr ⟨by rw [e1]; simp, i1, d, r, rfl, h9, ?_⟩⟩
            simp only
            rw [e1]
            exact ⟨r, m, rfl, e2, e3⟩
        · rw [restD_no h8 h9] at h; cases h
theorem prog_ok {bad : Flt} : ∀ (n : Nat) (l : List Tok) (acc cs : List ClauseT), l.length ≤ n → acc.length ≤ 512 → GoodR l bad → progD bad acc l = .ok cs → bad = (0, 0) ∧ ∃ ys, cs = acc ++ ys ∧ ProgOk ys l
  | n, [], acc, cs, hn, _, _, h => by rw [progD_nil] at h; cases h
  | 0, t :: l, acc, cs, hn, _, _, h => by simp at hn
  | n + 1, t :: l, acc, cs, hn, hacc, hg, h => by
    by_cases h0 : tK t = 0
    · rw [progD_end h0] at h
      cases h
      obtain ⟨rfl, hb⟩ := hg.last h0
      exact ⟨hb, [], by simp, t, rfl, h0⟩
    by_cases hf : 512 ≤ acc.length ∧ tK t = 1
    · rw [progD_full h0 hf] at h; cases h
    cases he : clauseD bad (t :: l) with
    | error e => rw [progD_err h0 hf he] at h; cases h
    | ok xq =>
      obtain ⟨x, q⟩ := xq
      rw [progD_on h0 hf he] at h
      have hl := clauseD_len he
      have hc5 : acc.length < 512 ∨ tK t ≠ 1 := by
        by_cases hlt : acc.length < 512
        · exact .inl hlt
        · exact .inr fun q => hf ⟨by omega, q⟩
      obtain ⟨hc, hgq, -, -⟩ := (clause_chk (li := 0) (te := 0) (by omega) (by omega) h0 hc5 hg).2 x q he
      obtain ⟨i1, ys, e1, e2⟩ := prog_ok n q (acc ++ [x]) cs (by simp only [List.length_cons] at hn hl; omega) (by simp; omega) hgq h
      exact ⟨i1, x :: ys, by rw [e1, List.append_assoc]; rfl, q, clause_ok he, e2⟩
/-! ### Where a text is refused -/
def ErrOk (bad : Flt) (L : List Tok) (e : Flt) : Prop := e = bad ∨ ∃ t ∈ L, e = refuseD t ∨ (tK t ≠ 0 ∧ (e = stopD 22 t ∨ e = stopD 23 t ∨ e = stopD 24 t))
theorem ErrOk.up {bad : Flt} {L M : List Tok} {e : Flt} (h : ErrOk bad L e) (hs : ∀ t ∈ L, t ∈ M) : ErrOk bad M e := by
  rcases h with h | ⟨t, ht, h⟩
  · exact .inl h
  · exact .inr ⟨t, hs t ht, h⟩
theorem isT_ne {k : Int} {v : Bool} (h : isT k v = true) : k ≠ 0 := fun q => by rw [q] at h; unfold isT at h; simp at h
theorem args_err (bad : Flt) (v : Bool) : ∀ (l : List Tok) (acc : List TermT) (e : Flt), argsD bad v acc l = .error e → ErrOk bad l e
  | [], acc, e, h => by unfold argsD at h; cases h; exact .inl rfl
  | [t], acc, e, h => by
    rw [argsD_cons] at h
    split at h
    · rename_i h8; cases h; exact .inr ⟨t, by simp, .inr ⟨isT_ne h8.2, .inl rfl⟩⟩
    · split at h
      · cases h; exact .inr ⟨t, by simp, .inl rfl⟩
      · cases h; exact .inl rfl
  | t :: c :: r, acc, e, h => by
    rw [argsD_cons] at h
    split at h
    · rename_i h8; cases h; exact .inr ⟨t, by simp, .inr ⟨isT_ne h8.2, .inl rfl⟩⟩
    · split at h
      · cases h; exact .inr ⟨t, by simp, .inl rfl⟩
      · simp only at h
        split at h
        · exact (args_err bad v r _ _ h).up (fun t ht => by simp [ht])
        · split at h
          · cases h
          · cases h; exact .inr ⟨c, by simp, .inl rfl⟩
theorem atom_err {bad : Flt} {v : Bool} {l : List Tok} {e : Flt} (h : atomD bad v l = .error e) : ErrOk bad l e := by
  cases l with
  | nil => rw [atomD] at h; cases h; exact .inl rfl
  | cons t l =>
    by_cases ht : tK t = 1
    case neg => rw [atomD_no ht] at h; cases h; exact .inr ⟨t, by simp, .inl rfl⟩
    cases l with
    | nil => rw [atomD_nil ht] at h; cases h; exact .inl rfl
    | cons p r =>
      rw [atomD_on ht] at h
      split at h
      · cases h
      · split at h
        · rename_i e' he
          cases h
          exact (args_err _ _ _ _ _ he).up (fun t ht => by simp [ht])
        · cases h
theorem suf_atom {bad : Flt} {v : Bool} {l q : List Tok} {a : AtomT} (h : atomD bad v l = .ok (a, q)) : ∀ t ∈ q, t ∈ l := by
  have hr : ∀ (f : Bool) (xs : List TermT) (l q : List Tok), RestOk f xs l q → ∀ t ∈ q, t ∈ l := by
    intro f xs
    induction xs generalizing f with
    | nil => rintro l q ⟨c, rfl, -⟩ t ht; simp [ht]
    | cons x xs ih => rintro l q ⟨s, t, m, rfl, -, -, -, h⟩ y hy; have := ih false m q h y hy; simp [this]
  obtain ⟨t, m, rfl, -, -, -, h⟩ := atom_ok h
  rcases h with ⟨-, rfl⟩ | ⟨-, h⟩
  · intro y hy; simp [hy]
  · intro y hy; have := hr _ _ _ _ h y hy; simp [this]
theorem lit_err {bad : Flt} {l : List Tok} {e : Flt} (h : litD bad l = .error e) : ErrOk bad l e := by
  cases l with
  | nil => rw [litD_nil] at h; cases h; exact .inl rfl
  | cons t l =>
    by_cases h10 : tK t = 10
    · cases ha : atomD bad true l with
      | error e' => rw [litD_notE h10 ha] at h; cases h; exact (atom_err ha).up (fun t ht => by simp [ht])
      | ok aq => obtain ⟨a, q'⟩ := aq; rw [litD_notO h10 ha] at h; cases h
    by_cases h1 : tK t = 1 ∧ opBeh l = false
    · cases ha : atomD bad true (t :: l) with
      | error e' => rw [litD_posE h10 h1 ha] at h; cases h; exact atom_err ha
      | ok aq => obtain ⟨a, q'⟩ := aq; rw [litD_posO h10 h1 ha] at h; cases h
    rw [litD_test h10 h1] at h
    cases hT : isT (tK t) true with
    | false => rw [testD_1 hT] at h; cases h; exact .inr ⟨t, by simp, .inl rfl⟩
    | true =>
      cases l with
      | nil => rw [testD_2 hT] at h; cases h; exact .inl rfl
      | cons o r =>
        by_cases ho : tK o = 11
        case neg => rw [testD_3 hT ho] at h; cases h; exact .inr ⟨o, by simp, .inl rfl⟩
        cases r with
        | nil => rw [testD_4 hT ho] at h; cases h; exact .inl rfl
        | cons y r =>
          cases hy : isT (tK y) true with
          | false => rw [testD_5 hT ho hy] at h; cases h; exact .inr ⟨y, by simp, .inl rfl⟩
          | true => rw [testD_6 hT ho hy] at h; cases h
theorem suf_lit {bad : Flt} {l q : List Tok} {x : LitT} (h : litD bad l = .ok (x, q)) : ∀ t ∈ q, t ∈ l := by
  cases l with
  | nil => rw [litD_nil] at h; cases h
  | cons t l =>
    by_cases h10 : tK t = 10
    · cases ha : atomD bad true l with
      | error e => rw [litD_notE h10 ha] at h; cases h
      | ok aq => obtain ⟨a, q'⟩ := aq; rw [litD_notO h10 ha] at h; cases h; intro y hy; have := suf_atom ha y hy; simp [this]
    by_cases h1 : tK t = 1 ∧ opBeh l = false
    · cases ha : atomD bad true (t :: l) with
      | error e => rw [litD_posE h10 h1 ha] at h; cases h
      | ok aq => obtain ⟨a, q'⟩ := aq; rw [litD_posO h10 h1 ha] at h; cases h; exact suf_atom ha
    rw [litD_test h10 h1] at h
    unfold testD at h
    split at h
    · cases h
    · cases l with
      | nil => cases h
      | cons o r =>
        simp only at h
        split at h
        · cases h
        · cases r with
          | nil => cases h
          | cons y r =>
            simp only at h
            split at h
            · cases h
            · cases h; intro z hz; simp [hz]
theorem body_err {bad : Flt} : ∀ (n : Nat) (l : List Tok) (acc : List LitT), l.length ≤ n → (∀ e, bodyD bad acc l = .error e → ErrOk bad l e) ∧ ∀ a q, bodyD bad acc l = .ok (a, q) → ∀ t ∈ q, t ∈ l
  | n, [], acc, _ => by rw [bodyD_nil]; exact ⟨fun e h => by cases h; exact .inl rfl, fun a q h => by cases h⟩
  | 0, t :: l, acc, hn => by simp at hn
  | n + 1, t :: l, acc, hn => by
    by_cases hf : 16 ≤ acc.length ∧ (tK t = 10 ∨ isT (tK t) true = true)
    · rw [bodyD_full hf]
      refine ⟨fun e h => ?_, fun a q h => by cases h⟩
      cases h
      refine .inr ⟨t, by simp, .inr ⟨?_, .inr (.inl rfl)⟩⟩
      rcases hf.2 with h | h
      · rw [h]; decide
      · exact isT_ne h
    · cases he : litD bad (t :: l) with
      | error e' => rw [bodyD_err hf he]; exact ⟨fun e h => by cases h; exact lit_err he, fun a q h => by cases h⟩
      | ok xq =>
        obtain ⟨x, r⟩ := xq
        rw [bodyD_on hf he]
        have hl := litD_len he
        have hsu := suf_lit he
        cases r with
        | nil => rw [litsD_nil]; exact ⟨fun e h => by cases h; exact .inl rfl, fun a q h => by cases h⟩
        | cons c r =>
          rw [litsD_cons]
          simp only [List.length_cons] at hl hn
          have hsr : ∀ t' ∈ r, t' ∈ t :: l := fun y hy => hsu y (List.mem_cons_of_mem _ hy)
          by_cases h7 : tK c = 7
          · rw [if_pos h7]
            obtain ⟨i1, i2⟩ := body_err n r (acc ++ [x]) (by omega)
            exact ⟨fun e h => (i1 e h).up hsr, fun a q h y hy => hsr y (i2 a q h y hy)⟩
          · rw [if_neg h7]
            by_cases h8 : tK c = 8
            · rw [if_pos h8]
              exact ⟨fun e h => (by cases h), fun a q h => (by cases h; exact hsr)⟩
            · rw [if_neg h8]
              exact ⟨fun e h => (by cases h; exact .inr ⟨c, hsu c (by simp), .inl rfl⟩), fun a q h => (by cases h)⟩
theorem clause_err {bad : Flt} {l : List Tok} : (∀ e, clauseD bad l = .error e → ErrOk bad l e) ∧ ∀ c q, clauseD bad l = .ok (c, q) → ∀ t ∈ q, t ∈ l := by
  cases ha : atomD bad true l with
  | error e' => rw [clauseD_err ha]; exact ⟨fun e h => (by cases h; exact atom_err ha), fun c q h => (by cases h)⟩
  | ok aq =>
    obtain ⟨a, m⟩ := aq
    rw [clauseD_ok ha]
    have hsu := suf_atom ha
    cases m with
    | nil => exact ⟨fun e h => (by cases h; exact .inl rfl), fun c q h => (by cases h)⟩
    | cons d r =>
      have hsr : ∀ t ∈ r, t ∈ l := fun y hy => hsu y (List.mem_cons_of_mem _ hy)
      by_cases h8 : tK d = 8
      · rw [restD_8 h8]; exact ⟨fun e h => (by cases h), fun c q h => (by cases h; exact hsr)⟩
      · by_cases h9 : tK d = 9
        · obtain ⟨i1, i2⟩ := body_err (bad := bad) r.length r [] (Nat.le_refl _)
          cases hb : bodyD bad [] r with
          | error e' => rw [restD_9E h9 hb]; exact ⟨fun e h => (by cases h; exact (i1 _ hb).up hsr), fun c q h => (by cases h)⟩
          | ok bp =>
            obtain ⟨b, p⟩ := bp
            rw [restD_9O h9 hb]
            exact ⟨fun e h => (by cases h), fun c q h => (by cases h; exact fun y hy => hsr y (i2 _ _ hb y hy))⟩
        · rw [restD_no h8 h9]; exact ⟨fun e h => (by cases h; exact .inr ⟨d, hsu d (by simp), .inl rfl⟩), fun c q h => (by cases h)⟩
theorem prog_err {bad : Flt} : ∀ (n : Nat) (l : List Tok) (acc : List ClauseT) (e : Flt), l.length ≤ n → progD bad acc l = .error e → ErrOk bad l e
  | n, [], acc, e, _, h => by rw [progD_nil] at h; cases h; exact .inl rfl
  | 0, t :: l, acc, e, hn, h => by simp at hn
  | n + 1, t :: l, acc, e, hn, h => by
    by_cases h0 : tK t = 0
    · rw [progD_end h0] at h; cases h
    by_cases hf : 512 ≤ acc.length ∧ tK t = 1
    · rw [progD_full h0 hf] at h; cases h; exact .inr ⟨t, by simp, .inr ⟨h0, .inr (.inr rfl)⟩⟩
    obtain ⟨i1, i2⟩ := clause_err (bad := bad) (l := t :: l)
    cases he : clauseD bad (t :: l) with
    | error e' => rw [progD_err h0 hf he] at h; cases h; exact i1 _ he
    | ok xq =>
      obtain ⟨x, q⟩ := xq
      rw [progD_on h0 hf he] at h
      have hl := clauseD_len he
      exact (prog_err n q _ e (by simp only [List.length_cons] at hn hl; omega) h).up (i2 _ _ he)
/-- May a text be refused so? -/
def refusedF (L : List Tok) (own f : Flt) : Bool := (!decide (own.1 = 0) && decide (f = own)) || (decide (20 ≤ f.1) && decide (f.1 ≤ 24) && L.any fun t => decide (tO t = f.2) && (decide (tK t = 0) == decide (f.1 = 21)))
theorem refused_of {bad : Flt} {L : List Tok} {e : Flt} (h : ErrOk bad L e) (hb : e.1 ≠ 0) : refusedF L bad e = true := by
  unfold refusedF
  rw [Bool.or_eq_true]
  rcases h with rfl | ⟨t, ht, h⟩
  · left; simp [hb]
  · right
    rw [Bool.and_eq_true, Bool.and_eq_true]
    have key : (20 ≤ e.1 ∧ e.1 ≤ 24) ∧ tO t = e.2 ∧ (tK t = 0 ↔ e.1 = 21) := by
      rcases h with rfl | ⟨h0, rfl | rfl | rfl⟩
      · unfold refuseD
        by_cases h0 : tK t = 0
        · rw [if_pos h0]; simp [h0]
        · rw [if_neg h0]; simp [h0]
      · simp [stopD, h0]
      · simp [stopD, h0]
      · simp [stopD, h0]
    refine ⟨⟨decide_eq_true key.1.1, decide_eq_true key.1.2⟩, List.any_eq_true.2 ⟨t, ht, ?_⟩⟩
    rw [Bool.and_eq_true]
    refine ⟨decide_eq_true key.2.1, ?_⟩
    by_cases h0 : tK t = 0
    · simp [h0, key.2.2.1 h0]
    · have : ¬ e.1 = 21 := fun q => h0 (key.2.2.2 q)
      simp [h0, this]
end Edict
