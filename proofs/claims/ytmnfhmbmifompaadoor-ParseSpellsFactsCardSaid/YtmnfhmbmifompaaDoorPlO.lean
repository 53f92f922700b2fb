/- Plain facts: the tokens that a facts text and a query spell. -/
import Derived.Test.YtmnfhmbmifompaaDoorPlM
namespace Edict
open Go
def FactsOk : List AtomT → List Tok → Prop
  | [], l => ∃ e, l = [e] ∧ tK e = 0
  | a :: fs, l => ∃ m d n, (a.2.1.length ≤ 8 ∧ ∀ x ∈ a.2.1, x.1 ≠ 4) ∧ AtomOk a l m ∧ m = d :: n ∧ tK d = 8 ∧ FactsOk fs n
theorem fact_ok {bad : Flt} {l : List Tok} {a : AtomT} {q : List Tok} (h : factD1 bad l = .ok (a, q)) : ∃ m d, (a.2.1.length ≤ 8 ∧ ∀ x ∈ a.2.1, x.1 ≠ 4) ∧ AtomOk a l m ∧ m = d :: q ∧ tK d = 8 := by
  cases ha : atomD bad false l with
  | error e => rw [factD1_err ha] at h; cases h
  | ok aq =>
    obtain ⟨a', q'⟩ := aq
    rw [factD1_ok ha] at h
    cases q' with
    | nil => cases h
    | cons c r =>
      by_cases h8 : tK c = 8
      · rw [dotD_ok h8] at h
        cases h
        exact ⟨_, c, ⟨atomD_most ha, (atomD_up ha).2⟩, atom_ok ha, rfl, h8⟩
      · rw [dotD_no h8] at h; cases h
theorem facts_ok {bad : Flt} : ∀ (n : Nat) (l : List Tok) (acc cs : List AtomT), l.length ≤ n → acc.length ≤ 4096 → GoodR l bad → factsD bad acc l = .ok cs → bad = (0, 0) ∧ ∃ ys, cs = acc ++ ys ∧ FactsOk ys l
  | n, [], acc, cs, hn, _, _, h => by rw [factsD_nil] at h; cases h
  | 0, t :: l, acc, cs, hn, _, _, h => by simp at hn
  | n + 1, t :: l, acc, cs, hn, hacc, hg, h => by
    by_cases h0 : tK t = 0
    · rw [factsD_end h0] at h
      cases h
      obtain ⟨rfl, hb⟩ := hg.last h0
      exact ⟨hb, [], by simp, t, rfl, h0⟩
    by_cases hf : 4096 ≤ acc.length ∧ tK t = 1
    · rw [factsD_full h0 hf] at h; cases h
    cases he : factD1 bad (t :: l) with
    | error e => rw [factsD_err h0 hf he] at h; cases h
    | ok xq =>
      obtain ⟨x, q⟩ := xq
      rw [factsD_on h0 hf he] at h
      have hl := factD1_len he
      have hc5 : acc.length < 4096 ∨ tK t ≠ 1 := by
        by_cases hlt : acc.length < 4096
        · exact .inl hlt
        · exact .inr fun q => hf ⟨by omega, q⟩
      obtain ⟨hc, hgq, -, -⟩ := (fact_chk (li := 0) (te := 0) (by omega) (by omega) h0 hc5 hg).2 x q he
      obtain ⟨i1, ys, e1, e2⟩ := facts_ok n q (acc ++ [x]) cs (by simp only [List.length_cons] at hn hl; omega) (by simp; omega) hgq h
      obtain ⟨m, d, k1, k2, k3, k4⟩ := fact_ok he
      exact ⟨i1, x :: ys, by rw [e1, List.append_assoc]; rfl, m, d, q, k1, k2, k3, k4, e2⟩
theorem fact_err {bad : Flt} {l : List Tok} : (∀ e, factD1 bad l = .error e → ErrOk bad l e) ∧ ∀ c q, factD1 bad l = .ok (c, q) → ∀ t ∈ q, t ∈ l := by
  cases ha : atomD bad false l with
  | error e' => rw [factD1_err ha]; exact ⟨fun e h => (by cases h; exact atom_err ha), fun c q h => (by cases h)⟩
  | ok aq =>
    obtain ⟨a, m⟩ := aq
    rw [factD1_ok ha]
    have hsu := suf_atom ha
    cases m with
    | nil => exact ⟨fun e h => (by cases h; exact .inl rfl), fun c q h => (by cases h)⟩
    | cons d r =>
      by_cases h8 : tK d = 8
      · rw [dotD_ok h8]; exact ⟨fun e h => (by cases h), fun c q h => (by cases h; exact fun y hy => hsu y (List.mem_cons_of_mem _ hy))⟩
      · rw [dotD_no h8]; exact ⟨fun e h => (by cases h; exact .inr ⟨d, hsu d (by simp), .inl rfl⟩), fun c q h => (by cases h)⟩
theorem facts_err {bad : Flt} : ∀ (n : Nat) (l : List Tok) (acc : List AtomT) (e : Flt), l.length ≤ n → factsD bad acc l = .error e → ErrOk bad l e
  | n, [], acc, e, _, h => by rw [factsD_nil] at h; cases h; exact .inl rfl
  | 0, t :: l, acc, e, hn, h => by simp at hn
  | n + 1, t :: l, acc, e, hn, h => by
    by_cases h0 : tK t = 0
    · rw [factsD_end h0] at h; cases h
    by_cases hf : 4096 ≤ acc.length ∧ tK t = 1
    · rw [factsD_full h0 hf] at h; cases h; exact .inr ⟨t, by simp, .inr ⟨h0, .inr (.inr rfl)⟩⟩
    obtain ⟨i1, i2⟩ := fact_err (bad := bad) (l := t :: l)
    cases he : factD1 bad (t :: l) with
    | error e' => rw [factsD_err h0 hf he] at h; cases h; exact i1 _ he
    | ok xq =>
      obtain ⟨x, q⟩ := xq
      rw [factsD_on h0 hf he] at h
      have hl := factD1_len he
      exact (facts_err n q _ e (by simp only [List.length_cons] at hn hl; omega) h).up (i2 _ _ he)
def QueryOk (ls : List LitT) (l : List Tok) : Prop := (0 < ls.length ∧ ls.length ≤ 16) ∧ ∃ e, BodyOk true ls l [e] ∧ tK e = 0
theorem query_ok {bad : Flt} {l : List Tok} {ls : List LitT} (hg : GoodR l bad) (h : queryD bad l = .ok ls) : bad = (0, 0) ∧ QueryOk ls l := by
  cases hb : bodyD bad [] l with
  | error e => rw [queryD_err hb] at h; cases h
  | ok bq =>
    obtain ⟨b, q⟩ := bq
    rw [queryD_ok hb] at h
    obtain ⟨i1, x, xs, m, e1, e2, e3⟩ := body_ok _ _ [] _ _ (Nat.le_refl _) (by simp) hb
    obtain ⟨hgq, -⟩ := (body_chk (f := 5) (c := 0) rfl l [] 0 (by simp) (by omega) hg).2 b q hb
    rw [List.nil_append] at e1
    cases q with
    | nil => cases h
    | cons t r =>
      by_cases h0 : tK t = 0
      · rw [endD_ok h0] at h
        cases h
        obtain ⟨rfl, hbad⟩ := hgq.last h0
        refine ⟨hbad, ⟨by rw [e1]; simp, i1⟩, t, ?_, h0⟩
        rw [e1]
        exact ⟨l, m, rfl, e2, e3⟩
      · rw [endD_no h0] at h; cases h
theorem query_err {bad : Flt} {l : List Tok} {e : Flt} (h : queryD bad l = .error e) : ErrOk bad l e := by
  obtain ⟨i1, i2⟩ := body_err (bad := bad) l.length l [] (Nat.le_refl _)
  cases hb : bodyD bad [] l with
  | error e' => rw [queryD_err hb] at h; cases h; exact i1 _ hb
  | ok bq =>
    obtain ⟨b, q⟩ := bq
    rw [queryD_ok hb] at h
    have hs := i2 _ _ hb
    cases q with
    | nil => cases h; exact .inl rfl
    | cons t r =>
      by_cases h0 : tK t = 0
      · rw [endD_ok h0] at h; cases h
      · rw [endD_no h0] at h; cases h; exact .inr ⟨t, hs t (by simp), .inl rfl⟩
/-- A text's fault, or what its tokens spell. -/
def SaidOk {α : Type} (src : List UInt8) (R : List α × Flt) (Ok : List α → List Tok → Prop) : Prop := (R.2.1 ≠ 0 ∧ R.1 = [] ∧ refusedF (scanF src).1 (badF src) R.2 = true) ∨ (R.2 = (0, 0) ∧ badF src = (0, 0) ∧ Ok R.1 (scanF src).1)
theorem bad_long {src : List UInt8} (h : 65536 < src.length) : badF src = (1, 0) := by unfold badF scanF; rw [if_pos h]; rfl
theorem facs_said (src : List UInt8) : SaidOk src (resFacs src) FactsOk := by
  by_cases h6 : 65536 < src.length
  · rcases resFacs_cases src with ⟨e, h, hne, hp⟩ | ⟨a, h, hp⟩
    · unfold parseF at hp
      rw [if_pos h6] at hp
      cases hp
      rw [h]
      exact .inl ⟨hne, rfl, refused_of (.inl (bad_long h6).symm) hne⟩
    · unfold parseF at hp; rw [if_pos h6] at hp; cases hp
  · rcases resFacs_cases src with ⟨e, h, hne, hp⟩ | ⟨a, h, hp⟩
    · unfold parseF at hp
      rw [if_neg h6] at hp
      rw [h]
      exact .inl ⟨hne, rfl, refused_of (facts_err _ _ _ _ (Nat.le_refl _) hp) hne⟩
    · unfold parseF at hp
      rw [if_neg h6] at hp
      rw [h]
      obtain ⟨h1, ys, e, h2⟩ := facts_ok _ _ [] a (Nat.le_refl _) (by simp) (good_src (by omega)) hp
      rw [List.nil_append] at e
      subst e
      exact .inr ⟨rfl, h1, h2⟩
theorem qry_said (src : List UInt8) : SaidOk src (resQry src) QueryOk := by
  by_cases h6 : 65536 < src.length
  · rcases resQry_cases src with ⟨e, h, hne, hp⟩ | ⟨a, h, hp⟩
    · unfold parseF at hp
      rw [if_pos h6] at hp
      cases hp
      rw [h]
      exact .inl ⟨hne, rfl, refused_of (.inl (bad_long h6).symm) hne⟩
    · unfold parseF at hp; rw [if_pos h6] at hp; cases hp
  · rcases resQry_cases src with ⟨e, h, hne, hp⟩ | ⟨a, h, hp⟩
    · unfold parseF at hp
      rw [if_neg h6] at hp
      rw [h]
      exact .inl ⟨hne, rfl, refused_of (query_err hp) hne⟩
    · unfold parseF at hp
      rw [if_neg h6] at hp
      rw [h]
      exact .inr ⟨rfl, query_ok (good_src (by omega)) hp⟩
end Edict
