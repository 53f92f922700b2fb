/- Texts put together, moved, cut off; the four readers' faults: what may stand behind, what may stand ahead. -/
import Derived.Test.YteiopegaiohglaaDoorPsF
namespace Edict
theorem bat_appL {s t : List UInt8} {i : Nat} (h : i < s.length) : bat (s ++ t) i = bat s i := by
  unfold bat; rw [List.getD_eq_getElem?_getD, List.getD_eq_getElem?_getD, List.getElem?_append_left h]
theorem bat_appR {s t : List UInt8} {i : Nat} : bat (s ++ t) (s.length + i) = bat t i := by
  unfold bat; rw [List.getD_eq_getElem?_getD, List.getD_eq_getElem?_getD, List.getElem?_append_right (by omega)]; congr 3; omega
/-! ### A text ahead: everything is moved -/
def shT (b : Nat) (t : Tok) : Tok := (t.1, t.2.1, t.2.2.1, t.2.2.2.1, t.2.2.2.2.1 + (b : Int), t.2.2.2.2.2 + (b : Int))
def shR (b : Nat) : TR → TR
  | .ok t => .ok (shT b t)
  | .bad c o => .bad c (b + o)
section
variable (A : List UInt8) {B : List UInt8}
theorem pr_sh {k x y : Nat} : pr (A ++ B) (A.length + k) x y = pr B k x y := by
  unfold pr
  rw [show A.length + k + 1 = A.length + (k + 1) by omega, bat_appR, bat_appR, List.length_append]
  congr 2
  exact decide_eq_decide.2 (by omega)
theorem lineE_sh (B : List UInt8) (k : Nat) : lineE (A ++ B) (A.length + k) = A.length + lineE B k := by
  have hl : (A ++ B).length = A.length + B.length := List.length_append
  by_cases h : k < B.length ∧ bat B k ≠ 10
  · rw [lineE_step (s := A ++ B) (by omega) (by rw [bat_appR]; exact h.2), lineE_step h.1 h.2, show A.length + k + 1 = A.length + (k + 1) by omega]
    exact lineE_sh B (k + 1)
  · rw [lineE_stop h, lineE_stop (fun q => h ⟨by omega, by rw [bat_appR] at q; exact q.2⟩)]
termination_by B.length - k
theorem blk_sh (B : List UInt8) (d k : Nat) : blk (A ++ B) d (A.length + k) = (blk B d k).map (A.length + ·) := by
  have hl : (A ++ B).length = A.length + B.length := List.length_append
  by_cases hk : k < B.length
  case neg => rw [blk_end (s := A ++ B) (by omega), blk_end (s := B) (by omega)]; rfl
  by_cases h1 : pr B k 47 42 = true
  · rw [blk_up (s := A ++ B) (by rw [pr_sh]; exact h1), blk_up h1, show A.length + k + 2 = A.length + (k + 2) by omega]
    exact blk_sh B (d + 1) (k + 2)
  have h1' : pr B k 47 42 = false := by simpa using h1
  by_cases h2 : pr B k 42 47 = true
  · rw [blk_down (s := A ++ B) (by rw [pr_sh]; exact h1') (by rw [pr_sh]; exact h2), blk_down h1' h2, show A.length + k + 2 = A.length + (k + 2) by omega]
    split
    · rfl
    · exact blk_sh B (d - 1) (k + 2)
  have h2' : pr B k 42 47 = false := by simpa using h2
  rw [blk_on (s := A ++ B) (by omega) (by rw [pr_sh]; exact h1') (by rw [pr_sh]; exact h2'), blk_on hk h1' h2', show A.length + k + 1 = A.length + (k + 1) by omega]
  exact blk_sh B d (k + 1)
termination_by B.length - k
theorem gap_sh (B : List UInt8) (k : Nat) : gapF (A ++ B) (A.length + k) = (A.length + (gapF B k).1, (gapF B k).2) := by
  have hl : (A ++ B).length = A.length + B.length := List.length_append
  by_cases hk : k < B.length
  case neg => rw [gap_end (by omega), gap_end (s := B) (by omega)]
  by_cases hb : isBl (bat B k) = true
  · rw [gap_bl (by omega) (by rw [bat_appR]; exact hb), gap_bl hk hb, show A.length + k + 1 = A.length + (k + 1) by omega]
    exact gap_sh B (k + 1)
  by_cases h37 : bat B k = 37
  · rw [gap_line (by omega) (by rw [bat_appR]; exact h37), gap_line hk h37, show A.length + k + 1 = A.length + (k + 1) by omega, lineE_sh]
    exact gap_sh B _
  by_cases hp : pr B k 47 42 = true
  · have hp' : pr (A ++ B) (A.length + k) 47 42 = true := by rw [pr_sh]; exact hp
    have hbk' := blk_sh A B 1 (k + 2)
    cases hbk : blk B 1 (k + 2) with
    | none =>
      rw [hbk] at hbk'
      rw [gap_none hp hbk, gap_none hp' (by rw [show A.length + k + 2 = A.length + (k + 2) by omega]; exact hbk')]
    | some x =>
      rw [hbk] at hbk'
      rw [gap_some hp hbk, gap_some hp' (by rw [show A.length + k + 2 = A.length + (k + 2) by omega]; exact hbk')]
      exact gap_sh B x
  · rw [gap_else (by simpa using hb) h37 (by simpa using hp), gap_else (by rw [bat_appR]; simpa using hb) (by rw [bat_appR]; exact h37) (by rw [pr_sh]; simpa using hp)]
termination_by B.length - k
decreasing_by
  · omega
  · have := lineE_ge B (k + 1); omega
  · have := blk_gt B _ _ _ hbk; omega
theorem runF_sh (B : List UInt8) (k : Nat) : runF (A ++ B) (A.length + k) = A.length + runF B k := by
  have hl : (A ++ B).length = A.length + B.length := List.length_append
  by_cases h : k < B.length ∧ wdB (bat B k) = true
  · rw [runF_on (s := A ++ B) (by omega) (by rw [bat_appR]; exact h.2), runF_on h.1 h.2, show A.length + k + 1 = A.length + (k + 1) by omega]
    exact runF_sh B (k + 1)
  · rw [runF_stop h, runF_stop (fun q => h ⟨by omega, by rw [bat_appR] at q; exact q.2⟩)]
termination_by B.length - k
theorem sub_sh {i j : Nat} : sub (A ++ B) (A.length + i) (A.length + j) = sub B i j := by
  unfold sub
  rw [List.take_append, List.take_of_length_le (by omega), List.drop_append, List.drop_of_length_le (by omega), List.nil_append]
  congr 2 <;> omega
theorem esc_sh {i : Nat} : escF (A ++ B) (A.length + i) = escF B i := by
  unfold escF
  rw [show A.length + i + 1 = A.length + (i + 1) by omega, show A.length + i + 2 = A.length + (i + 2) by omega, show A.length + i + 3 = A.length + (i + 3) by omega, bat_appR, bat_appR, bat_appR]
theorem ite_iff {α : Type} {p q : Prop} [Decidable p] [Decidable q] {x y : α} (h : p ↔ q) : (if p then x else y) = if q then x else y := by
  by_cases hq : q
  · rw [if_pos hq, if_pos (h.2 hq)]
  · rw [if_neg hq, if_neg (fun k => hq (h.1 k))]
theorem shR_ite {q : Prop} [Decidable q] {b : Nat} {x y : TR} : shR b (if q then x else y) = if q then shR b x else shR b y := by split <;> rfl
theorem word_sh {o : Nat} : wordF (A ++ B) (A.length + o) = shR A.length (wordF B o) := by
  unfold wordF
  rw [runF_sh, sub_sh, bat_appR, shR_ite, shR_ite, shR_ite, show A.length + runF B o - (A.length + o) = runF B o - o by omega]
  simp only [shR, shT]
  congr 1
  congr 1
  · simp; omega
  · congr 1 <;> (simp; omega)
theorem int_sh {o c : Nat} : intF (A ++ B) (A.length + o) (A.length + c) = shR A.length (intF B o c) := by
  unfold intF allDg
  rw [runF_sh, sub_sh, ite_iff (p := A.length + o < A.length + c) (q := o < c) ⟨fun h => by omega, fun h => by omega⟩, shR_ite, shR_ite, shR_ite, shR_ite]
  simp only [shR, shT]
  congr 1
  congr 1
  · congr 1; simp; omega
  · congr 1; simp; omega
theorem txt_sh (B : List UInt8) (o i : Nat) (acc : List UInt8) : txtF (A ++ B) (A.length + o) (A.length + i) acc = shR A.length (txtF B o i acc) := by
  have hl : (A ++ B).length = A.length + B.length := List.length_append
  rw [txtF]
  conv => rhs; rw [txtF]
  rw [bat_appR, esc_sh, ite_iff (p := A.length + i < (A ++ B).length ∧ 32 ≤ bat B i) (q := i < B.length ∧ 32 ≤ bat B i) ⟨fun h => ⟨by omega, h.2⟩, fun h => ⟨by omega, h.2⟩⟩]
  by_cases h1 : i < B.length ∧ 32 ≤ bat B i
  case neg => rw [if_neg h1, if_neg h1]; rfl
  rw [if_pos h1, if_pos h1]
  by_cases h2 : bat B i = 34
  · rw [if_pos h2, if_pos h2]
    simp only [shR, shT]
    congr 1; simp; omega
  rw [if_neg h2, if_neg h2]
  by_cases h3 : bat B i = 92
  · rw [if_pos h3, if_pos h3]
    by_cases h4 : (escF B i).2 = 0
    · rw [if_pos h4, if_pos h4]; rfl
    rw [if_neg h4, if_neg h4]
    by_cases h5 : acc.length = 255
    · rw [if_pos h5, if_pos h5]; rfl
    rw [if_neg h5, if_neg h5, show A.length + i + (escF B i).2 = A.length + (i + (escF B i).2) by omega]
    exact txt_sh B o _ _
  rw [if_neg h3, if_neg h3]
  by_cases h5 : acc.length = 255
  · rw [if_pos h5, if_pos h5]; rfl
  rw [if_neg h5, if_neg h5, show A.length + i + 1 = A.length + (i + 1) by omega]
  exact txt_sh B o _ _
termination_by B.length - i
decreasing_by
  · have := esc_len B i; omega
  · omega
theorem sgn_sh {k op : Int} {o n b : Nat} : sgn k op (b + o) n = shR b (sgn k op o n) := by
  unfold sgn
  simp only [shR, shT]
  congr 1; simp; omega
theorem sign_sh {o : Nat} : signF (A ++ B) (A.length + o) = shR A.length (signF B o) := by
  unfold signF
  simp only [pr_sh, bat_appR, shR_ite, sgn_sh]
  rfl
theorem tok_sh {o : Nat} : tokF (A ++ B) (A.length + o) = shR A.length (tokF B o) := by
  unfold tokF
  have hl : (A ++ B).length = A.length + B.length := List.length_append
  rw [ite_iff (p := (A ++ B).length ≤ A.length + o) (q := B.length ≤ o) ⟨fun h => by omega, fun h => by omega⟩, bat_appR, show A.length + o + 1 = A.length + (o + 1) by omega, bat_appR]
  rw [int_sh, int_sh, word_sh, txt_sh, sign_sh]
  simp only [shR_ite]
  congr 1
  simp only [shR, shT]
  congr 1; simp; omega
theorem next_sh {k : Nat} : nextF (A ++ B) (A.length + k) = shR A.length (nextF B k) := by
  unfold nextF
  rw [gap_sh, tok_sh, shR_ite]
  rfl
def shF (b : Nat) (f : Int × Nat) : Int × Nat := if f.1 = 0 then f else (f.1, b + f.2)
theorem scan_sh : ∀ {l : List Tok} {k : Nat} {f : Int × Nat}, k ≤ B.length → scanK B k = (l, f) → scanK (A ++ B) (A.length + k) = (l.map (shT A.length), shF A.length f)
  | [], k, (c, p), hk, h => by
    have hn := scan_nil h
    obtain ⟨h0, -⟩ := next_bad hk hn
    have hn' := next_sh A (B := B) (k := k)
    rw [hn] at hn'
    rw [scanK_bad hn']
    unfold shF; rw [if_neg h0]; rfl
  | t :: l, k, f, hk, h => by
    obtain ⟨hn, h2⟩ := scan_cons hk h
    have hn' := next_sh A (B := B) (k := k)
    rw [hn] at hn'
    rcases h2 with ⟨h0, rfl, rfl⟩ | ⟨h0, h3⟩
    · rw [scanK_end hn' h0]; rfl
    · obtain ⟨c, v, n, p, o, e, rfl, q1, q2, q3, q4⟩ := next_ok hk hn
      simp only at h0
      have := scan_sh q2 h3
      rw [scanK_on (by rw [List.length_append]; omega) hn' h0]
      simp only [shT]
      rw [show (((e : Nat) : Int) + (A.length : Int)).toNat = A.length + e by omega, this]
      rfl
end
/-! ### Texts put together, cut off: their tokens -/
theorem gap_tok2 {s : List UInt8} {o : Nat} {t : Tok} (ho : o < s.length) (h : tokF s o = .ok t) : gapF s o = (o, true) := gap_at (tok_first ho h)
theorem next_is {s : List UInt8} {k : Nat} {c : Int} {v : List UInt8} {n p : Int} {o e : Nat} (hk : k ≤ s.length) (h : nextF s k = .ok (c, v, n, p, (o : Int), (e : Int))) : gapF s k = (o, true) ∧ tokF s o = .ok (c, v, n, p, (o : Int), (e : Int)) := by
  unfold nextF at h
  cases hg : gapF s k with
  | mk g b =>
    have hle := gap_le hk
    rw [hg] at h hle
    cases b with
    | false => simp at h
    | true =>
      simp only [if_true] at h
      obtain ⟨c', v', n', p', e', k1, -⟩ := tok_ok hle h
      simp only [Prod.mk.injEq] at k1
      have : g = o := by have := k1.2.2.2.2.1; omega
      subst this
      exact ⟨rfl, h⟩
/-- A token found in one text is found in another that begins likewise. -/
theorem next_beg {s t : List UInt8} {k : Nat} {c : Int} {v : List UInt8} {n p : Int} {o e : Nat} (hk : k ≤ s.length) (h : nextF s k = .ok (c, v, n, p, (o : Int), (e : Int))) (hc : c ≠ 0) (ha : Ag s t 0 0 e) (hf : Fol s t o o (e - o)) : nextF t k = .ok (c, v, n, p, (o : Int), (e : Int)) := by
  obtain ⟨h1, h2⟩ := next_is hk h
  have hge := gap_ge (s := s) (k := k)
  have hle := gap_le hk
  rw [h1] at hge hle
  simp only at hge hle
  obtain ⟨c', v', n', p', e', k1, k2, k3, k4⟩ := tok_ok hle h2
  simp only [Prod.mk.injEq] at k1
  obtain ⟨rfl, rfl, rfl, rfl, -, k5⟩ := k1
  have hee : e' = e := by omega
  subst hee
  have hoe := k4 hc
  have hag : Ag s t k k (o - k) := by have := ha.sub (i := k) (m := o - k) (by omega); simpa using this
  have hao : Ag s t o o (e' - o) := by have := ha.sub (i := o) (m := e' - o) (by omega); simpa using this
  have hg := gap_skip h1 hk hag (.inl (by omega))
  rw [show k + (o - k) = o by omega] at hg
  have hto := tok_loc h2 hc hao hf
  rw [show o + (e' - o) = e' by omega] at hto
  have hol : o < t.length := by have := ha.2.1; omega
  unfold nextF
  rw [hg, gap_tok2 hol hto]
  exact hto
theorem tok_fin {s : List UInt8} {o : Nat} (h : s.length ≤ o) : tokF s o = .ok (endT o) := by unfold tokF; rw [if_pos h]; rfl
theorem next_fin {s : List UInt8} {k : Nat} (h : gapF s k = (s.length, true)) : scanK s k = ([endT s.length], 0, 0) := by
  have hn : nextF s k = .ok (endT s.length) := by unfold nextF; rw [h]; exact tok_fin (Nat.le_refl _)
  exact scanK_end hn rfl
theorem scanF_is {s : List UInt8} (h : s.length ≤ 65536) : scanF s = scanK s 0 := by unfold scanF scanK; rw [if_neg (by omega)]
theorem scanK_next {s : List UInt8} {k k' : Nat} (h : nextF s k = nextF s k') : scanK s k = scanK s k' := by unfold scanK scanN; rw [h]
/-- One text, a line feed, another one: the tokens of the first, then those of the second, moved. -/
theorem scan_join {A B : List UInt8} : ∀ {r : List Tok} {k : Nat}, k ≤ A.length → (∀ t ∈ r, t.1 ≠ 0) → scanK A k = (r ++ [endT A.length], 0, 0) →
    scanK (A ++ 10 :: B) k = (r ++ (scanK B 0).1.map (shT (A.length + 1)), shF (A.length + 1) (scanK B 0).2)
  | [], k, hk, hr, h => by
    obtain ⟨h1, -⟩ := scan_cons hk h
    have hl : (A ++ 10 :: B).length = A.length + (B.length + 1) := by simp
    obtain ⟨g1, -⟩ := next_is (c := 0) (v := []) (n := 0) (p := 0) (o := A.length) (e := A.length) hk h1
    have hb : bat (A ++ 10 :: B) A.length = 10 := bat_appR (s := A) (t := 10 :: B) (i := 0)
    have hag : Ag A (A ++ 10 :: B) k k (A.length - k) := ⟨by omega, by omega, fun i hi => by rw [bat_appL (by omega)]⟩
    have hg := gap_skip g1 hk hag (.inr (.inr (by rw [show k + (A.length - k) = A.length by omega]; exact hb)))
    rw [show k + (A.length - k) = A.length by omega, gap_bl (k := A.length) (by omega) (by rw [hb]; decide)] at hg
    have hn : nextF (A ++ 10 :: B) k = nextF (A ++ 10 :: B) (A.length + 1) := by unfold nextF; rw [hg]
    rw [scanK_next hn]
    have hs := scan_sh (A ++ [10]) (B := B) (k := 0) (l := (scanK B 0).1) (f := (scanK B 0).2) (Nat.zero_le _) rfl
    have e1 : (A ++ [10]) ++ B = A ++ 10 :: B := by simp
    have e2 : (A ++ [10]).length = A.length + 1 := by simp
    rw [e1, e2, Nat.add_zero] at hs
    rw [hs]; rfl
  | t :: r, k, hk, hr, h => by
    obtain ⟨h1, h2⟩ := scan_cons hk h
    have ht := hr t (by simp)
    obtain ⟨h2, h3⟩ : t.1 ≠ 0 ∧ scanK A t.2.2.2.2.2.toNat = (r ++ [endT A.length], 0, 0) := h2.resolve_left (fun q => ht q.1)
    obtain ⟨c, v, n, p, o, e, rfl, q1, q2, q3, q4⟩ := next_ok hk h1
    simp only at h2
    rw [Int.toNat_natCast] at h3
    have hoe := q4 h2
    have hl : (A ++ 10 :: B).length = A.length + (B.length + 1) := by simp
    have hag : Ag A (A ++ 10 :: B) 0 0 e := ⟨by omega, by omega, fun i hi => by rw [Nat.zero_add, bat_appL (by omega)]⟩
    have hf : Fol A (A ++ 10 :: B) o o (e - o) := by
      unfold Fol
      rw [show o + (e - o) = e by omega]
      by_cases he : e = A.length
      · have hb : bat (A ++ 10 :: B) e = 10 := by
          have := bat_appR (s := A) (t := 10 :: B) (i := 0)
          rw [he]; exact this
        rw [hb]
        exact .inr (.inl ⟨by decide, by decide⟩)
      · exact .inr (.inr ⟨by omega, by omega, bat_appL (by omega)⟩)
    have hn := next_beg (t := A ++ 10 :: B) hk h1 h2 hag hf
    have hq := scan_join (B := B) (k := e) q2 (fun t ht => hr t (List.mem_cons_of_mem _ ht)) h3
    rw [scanK_on (by omega) hn h2]
    simp only [Int.toNat_natCast]
    rw [hq]
    rfl
/-- The tokens stand one behind the other. -/
theorem scan_sorted {s : List UInt8} : ∀ {l : List Tok} {k : Nat} {f : Int × Nat}, k ≤ s.length → scanK s k = (l, f) → (∀ t ∈ l, (k : Int) ≤ tO t ∧ tO t ≤ s.length ∧ (t.1 ≠ 0 → tO t < t.2.2.2.2.2 ∧ t.2.2.2.2.2 ≤ s.length) ∧ (t.1 = 0 → t = endT s.length)) ∧ l.Pairwise (fun x y => tO x < tO y)
  | [], k, f, hk, h => ⟨fun t ht => (by cases ht), List.Pairwise.nil⟩
  | t :: l, k, f, hk, h => by
    obtain ⟨h1, h2⟩ := scan_cons hk h
    obtain ⟨c, v, n, p, o, e, rfl, q1, q2, q3, q4⟩ := next_ok hk h1
    rcases h2 with ⟨h0, rfl, rfl⟩ | ⟨h0, h3⟩
    · refine ⟨fun t ht => ?_, by simp⟩
      rw [List.mem_singleton.1 ht]
      simp only at h0
      obtain ⟨a1, a2, a3, a4, a5⟩ := q3 h0
      refine ⟨by simp only [tO]; omega, by simp only [tO]; omega, fun q => absurd h0 q, fun _ => ?_⟩
      simp only [endT]; rw [h0, a3, a4, a5, a1, a2]
    · simp only at h0
      have hoe := q4 h0
      rw [Int.toNat_natCast] at h3
      obtain ⟨i1, i2⟩ := scan_sorted q2 h3
      refine ⟨fun t ht => ?_, List.Pairwise.cons (fun x hx => ?_) i2⟩
      · rcases List.mem_cons.1 ht with rfl | ht
        · exact ⟨by simp only [tO]; omega, by simp only [tO]; omega, fun _ => ⟨by simp only [tO]; omega, by simp only; omega⟩, fun q => absurd q h0⟩
        · obtain ⟨a1, a2⟩ := i1 t ht
          exact ⟨by omega, a2⟩
      · have := (i1 x hx).1
        simp only [tO] at this ⊢; omega
/-- What stands up to a token stays, whatever is put behind. -/
theorem scan_keep {s : List UInt8} {m : Nat} {more : List UInt8} (hm : m ≤ s.length) {t : Tok} {q : List Tok} {f : Int × Nat} (ht : t.1 ≠ 0) (hte : t.2.2.2.2.2 ≤ (m : Int)) : ∀ {p : List Tok} {k : Nat}, k ≤ s.length → scanK s k = (p ++ t :: q, f) →
    ∃ q' f', scanK (s.take m ++ 10 :: more) k = (p ++ t :: q', f') := by
  have hl : (s.take m ++ 10 :: more).length = m + (more.length + 1) := by simp; omega
  have hlt : (s.take m).length = m := by simp; omega
  have key : ∀ {k : Nat} {c : Int} {v : List UInt8} {n p : Int} {o e : Nat}, k ≤ s.length → nextF s k = .ok (c, v, n, p, (o : Int), (e : Int)) → c ≠ 0 → e ≤ m → o < e → nextF (s.take m ++ 10 :: more) k = .ok (c, v, n, p, (o : Int), (e : Int)) := fun {k c v n p o e} hk h1 hc hem hoe => by
    have hbt : ∀ i, i < m → bat (s.take m ++ 10 :: more) i = bat s i := fun i hi => by
      rw [bat_appL (by omega)]
      unfold bat
      rw [List.getD_eq_getElem?_getD, List.getD_eq_getElem?_getD, List.getElem?_take, if_pos hi]
    have hag : Ag s (s.take m ++ 10 :: more) 0 0 e := ⟨by omega, by omega, fun i hi => by rw [Nat.zero_add, hbt i (by omega)]⟩
    refine next_beg hk h1 hc hag ?_
    unfold Fol
    rw [show o + (e - o) = e by omega]
    by_cases he : e = m
    · have hb : bat (s.take m ++ 10 :: more) e = 10 := by
        have := bat_appR (s := s.take m) (t := 10 :: more) (i := 0)
        rw [Nat.add_zero, hlt] at this
        rw [he]; exact this
      rw [hb]
      exact .inr (.inl ⟨by decide, by decide⟩)
    · exact .inr (.inr ⟨by omega, by omega, hbt e (by omega)⟩)
  intro p
  induction p with
  | nil =>
    intro k hk h
    obtain ⟨h1, -⟩ := scan_cons hk h
    obtain ⟨c, v, n, p, o, e, rfl, q1, q2, q3, q4⟩ := next_ok hk h1
    simp only at ht hte
    have hoe := q4 ht
    have hn := key hk h1 ht (by omega) hoe
    rw [scanK_on (by omega) hn ht]
    exact ⟨_, _, rfl⟩
  | cons x p ih =>
    intro k hk h
    obtain ⟨-, srt⟩ := scan_sorted hk h
    obtain ⟨h1, h2⟩ := scan_cons hk h
    obtain ⟨c, v, n, p', o, e, rfl, q1, q2, q3, q4⟩ := next_ok hk h1
    rcases h2 with ⟨-, h3, -⟩ | ⟨h0, h3⟩
    · cases p <;> cases h3
    · simp only at h0
      have hoe := q4 h0
      rw [Int.toNat_natCast] at h3
      obtain ⟨i1, -⟩ := scan_sorted q2 h3
      have ht1 := i1 t (by simp)
      have hem : e ≤ m := by have := ht1.2.2.1 ht; omega
      have hn := key hk h1 h0 hem hoe
      obtain ⟨q', f', hq⟩ := ih q2 h3
      refine ⟨q', f', ?_⟩
      rw [scanK_on (by omega) hn h0]
      simp only [Int.toNat_natCast]
      rw [hq]
      rfl
/-- Cut off ahead of a token. -/
theorem scan_ahead {s : List UInt8} {m : Nat} {t : Tok} {q : List Tok} {f : Int × Nat} (hto : tO t = (m : Int)) : ∀ {p : List Tok} {k : Nat}, k ≤ s.length → m ≤ s.length → scanK s k = (p ++ t :: q, f) →
    scanK (s.take m) k = (p ++ [endT m], 0, 0) := by
  intro p
  have hbt : ∀ i, i < m → bat (s.take m) i = bat s i := fun i hi => by
    unfold bat
    rw [List.getD_eq_getElem?_getD, List.getD_eq_getElem?_getD, List.getElem?_take, if_pos hi]
  induction p with
  | nil =>
    intro k hk hms h
    have hl : (s.take m).length = m := by simp; omega
    obtain ⟨h1, -⟩ := scan_cons hk h
    obtain ⟨c, v, n, p', o, e, rfl, q1, q2, q3, q4⟩ := next_ok hk h1
    simp only [tO] at hto
    have hom : o = m := by omega
    subst hom
    obtain ⟨g1, g2⟩ := next_is hk h1
    have hag : Ag s (s.take o) k k (o - k) := ⟨by omega, by omega, fun i hi => by rw [hbt _ (by omega)]⟩
    have hg := gap_skip g1 hk hag (.inr (.inl (by omega)))
    rw [show k + (o - k) = o by omega, gap_end (k := o) (by omega)] at hg
    have := next_fin (s := s.take o) (k := k) (by rw [hl]; exact hg)
    rwa [hl] at this
  | cons x p ih =>
    intro k hk hms h
    have hl : (s.take m).length = m := by simp; omega
    obtain ⟨h1, h2⟩ := scan_cons hk h
    obtain ⟨c, v, n, p', o, e, rfl, q1, q2, q3, q4⟩ := next_ok hk h1
    rcases h2 with ⟨-, h3, -⟩ | ⟨h0, h3⟩
    · cases p <;> cases h3
    · simp only at h0
      have hoe := q4 h0
      rw [Int.toNat_natCast] at h3
      obtain ⟨i1, -⟩ := scan_sorted q2 h3
      have ht1 := (i1 t (by simp)).1
      have hem : e ≤ m := by omega
      have hag : Ag s (s.take m) 0 0 e := ⟨by omega, by omega, fun i hi => by rw [Nat.zero_add, hbt i (by omega)]⟩
      have hf : Fol s (s.take m) o o (e - o) := by
        unfold Fol
        rw [show o + (e - o) = e by omega]
        by_cases he : e = m
        · exact .inl (by omega)
        · exact .inr (.inr ⟨by omega, by omega, hbt e (by omega)⟩)
      have hn := next_beg hk h1 h0 hag hf
      have hq := ih q2 hms h3
      rw [scanK_on (by omega) hn h0]
      simp only [Int.toNat_natCast]
      rw [hq]
      rfl
/-! ### The codes of a scan's faults -/
theorem next_code {s : List UInt8} {k : Nat} {c : Int} {p : Nat} (h : nextF s k = .bad c p) : c ≤ 16 := by
  unfold nextF at h
  split at h
  · obtain ⟨o, ho⟩ : ∃ o, o = (gapF s k).1 := ⟨_, rfl⟩
    rw [← ho] at h
    unfold tokF at h
    have hi : ∀ b, intF s o b = .bad c p → c ≤ 16 := fun b hb => by
      unfold intF at hb
      repeat' split at hb
      all_goals first | (cases hb; done) | (cases hb; decide)
    split at h
    · cases h
    · split at h
      · exact hi _ h
      · split at h
        · exact hi _ h
        · split at h
          · unfold wordF at h
            repeat' split at h
            all_goals first | (cases h; done) | (cases h; decide)
          · split at h
            · rcases txt_bad h with q | q | q <;> omega
            · have := (sign_bad h).1; omega
  · cases h; decide
theorem scan_code {s : List UInt8} : ∀ {l : List Tok} {k : Nat} {c : Int} {p : Nat}, k ≤ s.length → scanK s k = (l, c, p) → c ≤ 16
  | [], k, c, p, hk, h => next_code (scan_nil h)
  | t :: l, k, c, p, hk, h => by
    obtain ⟨h1, ⟨-, -, h2⟩ | ⟨-, h2⟩⟩ := scan_cons hk h
    · cases h2; decide
    · obtain ⟨c', v, n, p', o, e, rfl, q1, q2, q3, q4⟩ := next_ok hk h1
      exact scan_code (k := e) q2 h2
theorem bad_code {s : List UInt8} (h : s.length ≤ 65536) : (badF s).1 ≤ 16 ∧ (badF s).1 ≠ 1 := by
  unfold badF
  rw [scanF_is h]
  refine ⟨scan_code (l := (scanK s 0).1) (p := (scanK s 0).2.2) (Nat.zero_le _) rfl, ?_⟩
  rcases scan_shape (s := s) (k := 0) (l := (scanK s 0).1) (c := (scanK s 0).2.1) (p := (scanK s 0).2.2) (Nat.zero_le _) rfl with q | q
  · exact q.2.1
  · rw [q.1]; decide
/-! ### The table of states: a fault hangs on what stands up to it -/
theorem over_codes {f : Int} {c l t : Nat} : overF f c l t = 0 ∨ 22 ≤ overF f c l t ∧ overF f c l t ≤ 24 := by
  unfold overF
  split
  · exact .inr (by decide)
  · split
    · exact .inr (by decide)
    · split
      · exact .inr (by decide)
      · exact .inl rfl
theorem refuse_codes (x : Tok) : (refuseD x).2 = tO x ∧ ((tK x = 0 ∧ (refuseD x).1 = 21) ∨ (tK x ≠ 0 ∧ (refuseD x).1 = 20)) := by
  unfold refuseD
  by_cases h : tK x = 0
  · rw [if_pos h]; exact ⟨rfl, .inl ⟨h, rfl⟩⟩
  · rw [if_neg h]; exact ⟨rfl, .inr ⟨h, rfl⟩⟩
/-- A fault is the scan's own, or none, or stands at a token; where the table refuses, what stood ahead had led there. -/
theorem chk_where {f : Int} {bad : Flt} : ∀ (l : List Tok) (s : Int) (c n m : Nat), chkF f bad s c n m l = bad ∨ ∃ p x q, l = p ++ x :: q ∧ (chkF f bad s c n m l).2 = tO x ∧ (((chkF f bad s c n m l) = refuseD x) ∨ (22 ≤ (chkF f bad s c n m l).1 ∧ (chkF f bad s c n m l).1 ≤ 24))
  | [], s, c, n, m => .inl rfl
  | x :: r, s, c, n, m => by
    rw [chkF]
    split
    · exact .inr ⟨[], x, r, rfl, (refuse_codes x).1, .inl rfl⟩
    · split
      · rename_i h
        exact .inr ⟨[], x, r, rfl, rfl, .inr (over_codes.resolve_left h)⟩
      · rcases chk_where r _ _ _ _ with h | ⟨p, y, q, rfl, h1, h2⟩
        · exact .inl h
        · exact .inr ⟨x :: p, y, q, rfl, h1, h2⟩
theorem chk_keep {f : Int} {bad bad' e : Flt} {t : Tok} {q q' : List Tok} (hb : bad.1 ≤ 16) (he : 20 ≤ e.1) (het : e.2 = tO t) (hq : ∀ x ∈ q, tO t < tO x) : ∀ (p : List Tok) (s : Int) (c n m : Nat), (∀ x ∈ p, tO x < tO t) → chkF f bad s c n m (p ++ t :: q) = e → chkF f bad' s c n m (p ++ t :: q') = e
  | [], s, c, n, m, hp, h => by
    rw [List.nil_append] at h ⊢
    rw [chkF] at h ⊢
    split at h
    · rename_i h1; rw [if_pos h1]; exact h
    · rename_i h1
      rw [if_neg h1]
      split at h
      · rename_i h2; rw [if_pos h2]; exact h
      · exfalso
        rcases chk_where (f := f) (bad := bad) q (moveF f s (tK t)) (tkC s (tK t) c) (tkL s (tK t) n) (tkT s (tK t) m) with k | ⟨p', x, r, k1, k2, -⟩
        · rw [k] at h; rw [h] at hb; omega
        · rw [h] at k2
          have := hq x (by rw [k1]; simp)
          omega
  | x :: p, s, c, n, m, hp, h => by
    rw [List.cons_append] at h ⊢
    have hx := hp x (by simp)
    rw [chkF] at h ⊢
    split at h
    · exfalso; have := (refuse_codes x).1; rw [h] at this; omega
    · rename_i h1
      rw [if_neg h1]
      split at h
      · exfalso; rw [← h] at het; simp only at het; omega
      · rename_i h2
        rw [if_neg h2]
        exact chk_keep hb he het hq p _ _ _ _ (fun y hy => hp y (List.mem_cons_of_mem _ hy)) h
/-! ### The four readers' faults -/
/-- The fault that a reader tells of a text: f is where its table begins (Program 0, Facts 15, Query 5, Fact 20). -/
def fltF (f : Int) (src : List UInt8) : Flt := if 65536 < src.length then (1, 0) else chkF f (badF src) f 0 0 0 (scanF src).1
def rdF (r : Nat) : Int := if r = 0 then 0 else if r = 1 then 15 else if r = 2 then 5 else 20
theorem over_0 (f : Int) : overF f 0 0 0 = 0 := over_ok (by unfold capC; simp) (by omega) (by omega)
/-- Over a limit at a token: never at the end. -/
theorem over_end {f s : Int} {c n m : Nat} (h : overF f c n m = 0) (hm : moveF f s 0 ≠ -1) : overF f (tkC s 0 c) (tkL s 0 n) (tkT s 0 m) = 0 := by
  have h5 : s ≠ 5 := fun q => hm (by rw [q]; rfl)
  have h2 : ¬ (s = 2 ∨ s = 9 ∨ s = 17 ∨ s = 22) := fun q => hm (by rcases q with q | q | q | q <;> (rw [q]; rfl))
  unfold tkC tkL tkT
  rw [if_neg (by omega), if_neg (by omega), if_neg h5, if_neg (by omega), if_neg h2]
  exact h
theorem chk_at {f : Int} {bad : Flt} : ∀ (l : List Tok) (s : Int) (c n m : Nat), overF f c n m = 0 → chkF f bad s c n m l = bad ∨ ∃ p x q, l = p ++ x :: q ∧ (chkF f bad s c n m l).2 = tO x ∧ (((chkF f bad s c n m l) = refuseD x) ∨ (22 ≤ (chkF f bad s c n m l).1 ∧ (chkF f bad s c n m l).1 ≤ 24 ∧ tK x ≠ 0))
  | [], s, c, n, m, _ => .inl rfl
  | x :: r, s, c, n, m, ho => by
    rw [chkF]
    split
    · exact .inr ⟨[], x, r, rfl, (refuse_codes x).1, .inl rfl⟩
    · rename_i hmv
      split
      · rename_i h
        have hc := over_codes.resolve_left h
        refine .inr ⟨[], x, r, rfl, rfl, .inr ⟨hc.1, hc.2, fun q => ?_⟩⟩
        rw [q] at h hmv
        exact h (over_end ho hmv)
      · rename_i h
        rcases chk_at r _ _ _ _ (Classical.byContradiction h) with h | ⟨p, y, q, rfl, h1, h2⟩
        · exact .inl h
        · exact .inr ⟨x :: p, y, q, rfl, h1, h2⟩
/-- Where a grammar's fault stands. -/
theorem flt_at {f : Int} {src : List UInt8} (h : 20 ≤ (fltF f src).1) : src.length ≤ 65536 ∧ (fltF f src) = chkF f (badF src) f 0 0 0 (scanK src 0).1 ∧ ∃ p t q, (scanK src 0).1 = p ++ t :: q ∧ (fltF f src).2 = tO t ∧ ((fltF f src) = refuseD t ∨ (22 ≤ (fltF f src).1 ∧ (fltF f src).1 ≤ 24 ∧ tK t ≠ 0)) := by
  have hl : src.length ≤ 65536 := Nat.le_of_not_lt fun q => by unfold fltF at h; rw [if_pos q] at h; omega
  have e : fltF f src = chkF f (badF src) f 0 0 0 (scanK src 0).1 := by unfold fltF; rw [if_neg (by omega), scanF_is hl]
  refine ⟨hl, e, ?_⟩
  rcases chk_at (f := f) (bad := badF src) (scanK src 0).1 f 0 0 0 (over_0 f) with q | q
  · rw [e, q] at h; have := (bad_code hl).1; omega
  · rw [e]; exact q
/-- The tokens around one: all of them ahead begin before it, all behind after it; none ahead is the end. -/
theorem around {s : List UInt8} {p q : List Tok} {t : Tok} (h : (scanK s 0).1 = p ++ t :: q) : (∀ x ∈ p, tO x < tO t ∧ tK x ≠ 0) ∧ (∀ x ∈ q, tO t < tO x) ∧ 0 ≤ tO t ∧ tO t ≤ s.length ∧ (tK t ≠ 0 → tO t < t.2.2.2.2.2 ∧ t.2.2.2.2.2 ≤ s.length) ∧ (tK t = 0 → tO t = s.length) := by
  obtain ⟨h1, h2⟩ := scan_sorted (s := s) (k := 0) (l := (scanK s 0).1) (f := (scanK s 0).2) (Nat.zero_le _) rfl
  rw [h] at h1 h2
  obtain ⟨a1, a2, a3⟩ := List.pairwise_append.1 h2
  obtain ⟨b1, b2⟩ := List.pairwise_cons.1 a2
  obtain ⟨c1, c2, c3, c4⟩ := h1 t (by simp)
  refine ⟨fun x hx => ⟨a3 x hx t (by simp), fun hk => ?_⟩, b1, by omega, c2, c3, fun hk => by rw [c4 hk]; rfl⟩
  obtain ⟨d1, d2, d3, d4⟩ := h1 x (by simp [hx])
  have := a3 x hx t (by simp)
  rw [d4 hk] at this
  simp only [endT, tO] at this c2
  omega
/-- P3.2: whatever is put behind the token at the fault, the fault stays. -/
theorem flt_behind {f : Int} {src more : List UInt8} (h : 20 ≤ (fltF f src).1) (h1 : (fltF f src).1 ≠ 21) : ∃ t, t ∈ (scanF src).1 ∧ tO t = (fltF f src).2 ∧ tO t < t.2.2.2.2.2 ∧ 0 ≤ tO t ∧ t.2.2.2.2.2 ≤ src.length ∧ (∀ x ∈ (scanF src).1, tO x = (fltF f src).2 → x = t) ∧
    ((src.take t.2.2.2.2.2.toNat ++ 10 :: more).length ≤ 65536 → fltF f (src.take t.2.2.2.2.2.toNat ++ 10 :: more) = fltF f src) := by
  obtain ⟨hl, e, p, t, q, k1, k2, k3⟩ := flt_at h
  obtain ⟨r1, r2, r3, r4, r5, r6⟩ := around k1
  have h0 : tK t ≠ 0 := by
    rcases k3 with k3 | k3
    · rcases (refuse_codes t).2 with q | q
      · rw [k3] at h1; exact absurd q.2 h1
      · exact q.1
    · exact k3.2.2
  obtain ⟨r7, r8⟩ := r5 h0
  rw [scanF_is hl]
  refine ⟨t, by rw [k1]; simp, k2.symm, r7, r3, r8, fun x hx hxo => ?_, fun hm => ?_⟩
  · rw [k1] at hx
    rcases List.mem_append.1 hx with hx | hx
    · have := (r1 x hx).1; omega
    · rcases List.mem_cons.1 hx with hx | hx
      · exact hx
      · have := r2 x hx; omega
  · obtain ⟨q', f', hq⟩ := scan_keep (s := src) (m := t.2.2.2.2.2.toNat) (more := more) (by omega) (t := t) (q := q) (f := (scanK src 0).2) h0 (by omega) (p := p) (k := 0) (Nat.zero_le _) (by rw [← k1])
    have he : chkF f (badF src) f 0 0 0 (p ++ t :: q) = fltF f src := by rw [e, k1]
    have hs : ∀ z : List UInt8, z.length ≤ 65536 → fltF f z = chkF f (badF z) f 0 0 0 (scanK z 0).1 := fun z hz => by unfold fltF; rw [if_neg (by omega), scanF_is hz]
    rw [hs _ hm, hq]
    exact chk_keep (bad := badF src) (q := q) (bad_code hl).1 h k2 r2 p _ _ _ _ (fun x hx => (r1 x hx).1) he
/-! ### Where a table can be -/
def Rch (f s : Int) : Prop := (f = 0 ∧ 0 ≤ s ∧ s ≤ 14) ∨ (f = 15 ∧ 15 ≤ s ∧ s ≤ 19) ∨ (f = 5 ∧ (5 ≤ s ∧ s ≤ 14 ∨ s = 25)) ∨ (f = 20 ∧ 20 ≤ s ∧ s ≤ 24)
theorem rch_move {f s k : Int} (h : Rch f s) (hk : k ≠ 0) (hm : moveF f s k ≠ -1) : Rch f (moveF f s k) := by
  unfold Rch at h ⊢
  rcases h with ⟨rfl, h1, h2⟩ | ⟨rfl, h1, h2⟩ | ⟨rfl, h⟩ | ⟨rfl, h1, h2⟩
  · obtain h | h | h | h | h | h | h | h | h | h | h | h | h | h | h : s = 0 ∨ s = 1 ∨ s = 2 ∨ s = 3 ∨ s = 4 ∨ s = 5 ∨ s = 6 ∨ s = 7 ∨ s = 8 ∨ s = 9 ∨ s = 10 ∨ s = 11 ∨ s = 12 ∨ s = 13 ∨ s = 14 := by omega
    all_goals
      subst h
      unfold moveF behF at hm ⊢
      simp only [Int.reduceEq, if_true, if_false, hk] at hm ⊢
      repeat' split at hm
      all_goals first | (exact absurd rfl hm) | simp [*]
  · obtain h | h | h | h | h : s = 15 ∨ s = 16 ∨ s = 17 ∨ s = 18 ∨ s = 19 := by omega
    all_goals
      subst h
      unfold moveF behF at hm ⊢
      simp only [Int.reduceEq, if_true, if_false, hk] at hm ⊢
      repeat' split at hm
      all_goals first | (exact absurd rfl hm) | simp [*]
  · obtain h | h | h | h | h | h | h | h | h | h | h : s = 25 ∨ s = 5 ∨ s = 6 ∨ s = 7 ∨ s = 8 ∨ s = 9 ∨ s = 10 ∨ s = 11 ∨ s = 12 ∨ s = 13 ∨ s = 14 := by omega
    all_goals
      subst h
      unfold moveF behF at hm ⊢
      simp only [Int.reduceEq, if_true, if_false, hk] at hm ⊢
      repeat' split at hm
      all_goals first | (exact absurd rfl hm) | simp [*]
  · obtain h | h | h | h | h : s = 20 ∨ s = 21 ∨ s = 22 ∨ s = 23 ∨ s = 24 := by omega
    all_goals
      subst h
      unfold moveF behF at hm ⊢
      simp only [Int.reduceEq, if_true, if_false, hk] at hm ⊢
      repeat' split at hm
      all_goals first | (exact absurd rfl hm) | simp [*]
theorem chk_ahead {f : Int} {bad e : Flt} {t : Tok} {q : List Tok} (het : e.2 = tO t) (hq : ∀ x ∈ q, tO t < tO x) : ∀ (p : List Tok) (s : Int) (c n m : Nat), (∀ x ∈ p, tO x < tO t ∧ tK x ≠ 0) → Rch f s → chkF f bad s c n m (p ++ t :: q) = e →
    ∃ s' c' n' m', Rch f s' ∧ ∀ bad' r, chkF f bad' s c n m (p ++ r) = chkF f bad' s' c' n' m' r
  | [], s, c, n, m, hp, hr, h => ⟨s, c, n, m, hr, fun bad' r => rfl⟩
  | x :: p, s, c, n, m, hp, hr, h => by
    rw [List.cons_append] at h
    obtain ⟨hx, hx0⟩ := hp x (by simp)
    rw [chkF] at h
    split at h
    · exfalso; have := (refuse_codes x).1; rw [h] at this; omega
    · rename_i h1
      split at h
      · exfalso; rw [← h] at het; simp only at het; omega
      · rename_i h2
        obtain ⟨s', c', n', m', g1, g2⟩ := chk_ahead het hq p _ _ _ _ (fun y hy => hp y (List.mem_cons_of_mem _ hy)) (rch_move hr hx0 h1) h
        refine ⟨s', c', n', m', g1, fun bad' r => ?_⟩
        rw [List.cons_append, chkF, if_neg h1, if_neg h2]
        exact g2 bad' r
def goes (f : Int) : Int → List Int → Bool
  | _, [] => true
  | s, k :: r => !decide (moveF f s k = -1) && goes f (moveF f s k) r
theorem chk_goes {f : Int} : ∀ (l : List Tok) (s : Int) (c n m : Nat), goes f s (l.map tK) = true → chkF f (0, 0) s c n m l = (0, 0) ∨ (22 ≤ (chkF f (0, 0) s c n m l).1 ∧ (chkF f (0, 0) s c n m l).1 ≤ 24 ∧ ∃ x ∈ l, (chkF f (0, 0) s c n m l).2 = tO x)
  | [], s, c, n, m, h => .inl rfl
  | x :: r, s, c, n, m, h => by
    simp only [List.map_cons, goes, Bool.and_eq_true, Bool.not_eq_true', decide_eq_false_iff_not] at h
    rw [chkF, if_neg h.1]
    split
    · rename_i h2
      have hc := over_codes.resolve_left h2
      exact .inr ⟨hc.1, hc.2, x, by simp, rfl⟩
    · rcases chk_goes r _ _ _ _ h.2 with q | ⟨q1, q2, y, q3, q4⟩
      · exact .inl q
      · exact .inr ⟨q1, q2, y, by simp [q3], q4⟩
/-- What may be put behind. -/
def endL (i : Nat) : List UInt8 := if i = 1 then [46] else if i = 2 then [97, 41, 46] else if i = 3 then [41, 46] else if i = 4 then [97, 46] else if i = 5 then [61, 97, 46] else if i = 6 then [97] else if i = 7 then [97, 41] else if i = 8 then [41] else []
def endK (i : Nat) : List Tok := if i = 1 then [(8, [], 0, 0, 0, 1), (0, [], 0, 0, 1, 1)] else if i = 2 then [(1, [97], 0, 0, 0, 1), (6, [], 0, 0, 1, 2), (8, [], 0, 0, 2, 3), (0, [], 0, 0, 3, 3)] else if i = 3 then [(6, [], 0, 0, 0, 1), (8, [], 0, 0, 1, 2), (0, [], 0, 0, 2, 2)] else if i = 4 then [(1, [97], 0, 0, 0, 1), (8, [], 0, 0, 1, 2), (0, [], 0, 0, 2, 2)] else if i = 5 then [(11, [], 0, 1, 0, 1), (1, [97], 0, 0, 1, 2), (8, [], 0, 0, 2, 3), (0, [], 0, 0, 3, 3)] else if i = 6 then [(1, [97], 0, 0, 0, 1), (0, [], 0, 0, 1, 1)] else if i = 7 then [(1, [97], 0, 0, 0, 1), (6, [], 0, 0, 1, 2), (0, [], 0, 0, 2, 2)] else if i = 8 then [(6, [], 0, 0, 0, 1), (0, [], 0, 0, 1, 1)] else [(0, [], 0, 0, 0, 0)]
theorem end_scan (i : Nat) (h : i < 9) : scanK (endL i) 0 = (endK i, 0, 0) := by
  obtain h | h | h | h | h | h | h | h | h : i = 0 ∨ i = 1 ∨ i = 2 ∨ i = 3 ∨ i = 4 ∨ i = 5 ∨ i = 6 ∨ i = 7 ∨ i = 8 := by omega
  all_goals (subst h; kernel_rfl)
theorem end_goes {f s : Int} (h : Rch f s) : ∃ i, i < 9 ∧ goes f s ((endK i).map tK) = true := by
  unfold Rch at h
  rcases h with ⟨rfl, h1, h2⟩ | ⟨rfl, h1, h2⟩ | ⟨rfl, h⟩ | ⟨rfl, h1, h2⟩
  · obtain h | h | h | h | h | h | h | h | h | h | h | h | h | h | h : s = 0 ∨ s = 1 ∨ s = 2 ∨ s = 3 ∨ s = 4 ∨ s = 5 ∨ s = 6 ∨ s = 7 ∨ s = 8 ∨ s = 9 ∨ s = 10 ∨ s = 11 ∨ s = 12 ∨ s = 13 ∨ s = 14 := by omega
    all_goals (subst h; decide)
  · obtain h | h | h | h | h : s = 15 ∨ s = 16 ∨ s = 17 ∨ s = 18 ∨ s = 19 := by omega
    all_goals (subst h; decide)
  · obtain h | h | h | h | h | h | h | h | h | h | h : s = 25 ∨ s = 5 ∨ s = 6 ∨ s = 7 ∨ s = 8 ∨ s = 9 ∨ s = 10 ∨ s = 11 ∨ s = 12 ∨ s = 13 ∨ s = 14 := by omega
    all_goals (subst h; decide)
  · obtain h | h | h | h | h : s = 20 ∨ s = 21 ∨ s = 22 ∨ s = 23 ∨ s = 24 := by omega
    all_goals (subst h; decide)
theorem endK_pos (i : Nat) : ∀ x ∈ endK i, 0 ≤ tO x := by
  intro x hx
  unfold endK at hx
  repeat' split at hx
  all_goals (simp only [List.mem_cons, List.not_mem_nil, or_false] at hx; rcases hx with rfl | rfl | rfl | rfl | rfl <;> decide)
theorem rch_rd (r : Nat) : Rch (rdF r) (rdF r) := by
  unfold rdF Rch
  repeat' split
  all_goals simp
/-- P3.2: what stands ahead of the fault can be ended. -/
theorem flt_stops {r : Nat} {src : List UInt8} (hl6 : src.length ≤ 60000) (h : (fltF (rdF r) src).1 = 20 ∨ (fltF (rdF r) src).1 = 21) : ∃ m : Nat, (fltF (rdF r) src).2 = (m : Int) ∧ m ≤ src.length ∧ ((fltF (rdF r) src).1 = 21 → m = src.length) ∧
    ∃ i, i < 9 ∧ (fltF (rdF r) (src.take m ++ 10 :: endL i) = (0, 0) ∨ (22 ≤ (fltF (rdF r) (src.take m ++ 10 :: endL i)).1 ∧ (fltF (rdF r) (src.take m ++ 10 :: endL i)).1 ≤ 24 ∧ (m : Int) < (fltF (rdF r) (src.take m ++ 10 :: endL i)).2)) := by
  obtain ⟨hl, e, p, t, q, k1, k2, k3⟩ := flt_at (f := rdF r) (src := src) (by omega)
  obtain ⟨r1, r2, r3, r4, r5, r6⟩ := around k1
  refine ⟨(tO t).toNat, by omega, by omega, fun h21 => ?_, ?_⟩
  · rcases k3 with k3 | k3
    · rcases (refuse_codes t).2 with q | q
      · have := r6 q.1; omega
      · rw [k3, q.2] at h21; exact absurd h21 (by decide)
    · omega
  obtain ⟨m, hm⟩ : ∃ m, m = (tO t).toNat := ⟨_, rfl⟩
  rw [← hm]
  have hms : m ≤ src.length := by omega
  have hsc := scan_ahead (s := src) (m := m) (t := t) (q := q) (f := (scanK src 0).2) (by omega) (p := p) (k := 0) (Nat.zero_le _) hms (by rw [← k1])
  have hlm : (src.take m).length = m := by simp; omega
  obtain ⟨s', c', n', m', g1, g2⟩ := chk_ahead (f := rdF r) (bad := badF src) (e := fltF (rdF r) src) k2 r2 p (rdF r) 0 0 0 r1 (rch_rd r) (by rw [e, k1])
  obtain ⟨i, hi, hg⟩ := end_goes g1
  have hj := scan_join (A := src.take m) (B := endL i) (r := p) (k := 0) (Nat.zero_le _) (fun x hx => (r1 x hx).2) (by rw [hlm]; exact hsc)
  rw [end_scan i hi, hlm] at hj
  have hel : (endL i).length ≤ 3 := by unfold endL; repeat' split
                                       all_goals decide
  have hln : (src.take m ++ 10 :: endL i).length ≤ 65536 := by simp; omega
  have hbad : badF (src.take m ++ 10 :: endL i) = (0, 0) := by unfold badF; rw [scanF_is hln, hj]; rfl
  have hf : fltF (rdF r) (src.take m ++ 10 :: endL i) = chkF (rdF r) (0, 0) s' c' n' m' ((endK i).map (shT (m + 1))) := by
    unfold fltF
    rw [if_neg (by omega), scanF_is hln, hbad, hj]
    exact g2 _ _
  refine ⟨i, hi, ?_⟩
  rw [hf]
  have hk : ((endK i).map (shT (m + 1))).map tK = (endK i).map tK := by rw [List.map_map]; rfl
  rcases chk_goes ((endK i).map (shT (m + 1))) s' c' n' m' (by rw [hk]; exact hg) with w | ⟨w1, w2, x, w3, w4⟩
  · exact .inl w
  · obtain ⟨y, hy, rfl⟩ := List.mem_map.1 w3
    have := endK_pos i y hy
    refine .inr ⟨w1, w2, ?_⟩
    rw [w4]
    show (m : Int) < tO y + ((m + 1 : Nat) : Int)
    omega
/-- P3.2: refused by length just above. -/
theorem flt_long {f : Int} {src : List UInt8} : fltF f src = (1, 0) ↔ 65536 < src.length := by
  constructor
  · intro h
    refine Nat.lt_of_not_le fun hl => ?_
    unfold fltF at h
    rw [if_neg (by omega), scanF_is hl] at h
    rcases chk_at (f := f) (bad := badF src) (scanK src 0).1 f 0 0 0 (over_0 f) with q | ⟨p, x, q, -, -, q2⟩
    · rw [q] at h; have := (bad_code hl).2; rw [h] at this; exact this rfl
    · rw [h] at q2
      rcases q2 with q2 | q2
      · rcases (refuse_codes x).2 with q | q <;> (rw [← q2] at q; exact absurd q.2 (by decide))
      · exact absurd q2.1 (by decide)
  · intro h; unfold fltF; rw [if_pos h]
/-! ### The readers' faults, and what the readers answer -/
theorem prog_flt {src : List UInt8} : (∀ e, parseF (fun b l => progD b [] l) src = .error e → fltF 0 src = e) ∧ ∀ a, parseF (fun b l => progD b [] l) src = .ok a → fltF 0 src = (0, 0) := by
  unfold parseF fltF
  by_cases h : 65536 < src.length
  · rw [if_pos h, if_pos h]; exact ⟨fun e q => by cases q; rfl, fun a q => by cases q⟩
  · rw [if_neg h, if_neg h]
    have := prog_same (good_src (src := src) (by omega))
    exact ⟨fun e q => (this.1 e q).1, fun a q => (this.2 a q).1⟩
theorem facts_flt {src : List UInt8} : (∀ e, parseF (fun b l => factsD b [] l) src = .error e → fltF 15 src = e) ∧ ∀ a, parseF (fun b l => factsD b [] l) src = .ok a → fltF 15 src = (0, 0) := by
  unfold parseF fltF
  by_cases h : 65536 < src.length
  · rw [if_pos h, if_pos h]; exact ⟨fun e q => by cases q; rfl, fun a q => by cases q⟩
  · rw [if_neg h, if_neg h]
    have := facts_same (good_src (src := src) (by omega))
    exact ⟨fun e q => (this.1 e q).1, fun a q => (this.2 a q).1⟩
theorem query_flt {src : List UInt8} : (∀ e, parseF queryD src = .error e → fltF 5 src = e) ∧ ∀ a, parseF queryD src = .ok a → fltF 5 src = (0, 0) := by
  unfold parseF fltF
  by_cases h : 65536 < src.length
  · rw [if_pos h, if_pos h]; exact ⟨fun e q => by cases q; rfl, fun a q => by cases q⟩
  · rw [if_neg h, if_neg h]
    have := query_same (good_src (src := src) (by omega))
    exact ⟨fun e q => (this.1 e q).1, fun a q => (this.2 a q).1⟩
theorem one_flt {src : List UInt8} : (∀ e, parseF oneD src = .error e → fltF 20 src = e) ∧ ∀ a, parseF oneD src = .ok a → fltF 20 src = (0, 0) := by
  unfold parseF fltF
  by_cases h : 65536 < src.length
  · rw [if_pos h, if_pos h]; exact ⟨fun e q => by cases q; rfl, fun a q => by cases q⟩
  · rw [if_neg h, if_neg h]
    have := one_same (good_src (src := src) (by omega))
    exact ⟨fun e q => (this.1 e q).1, fun a q => (this.2 a q).1⟩
def repF (u : List UInt8) : Nat → List UInt8
  | 0 => []
  | n + 1 => u ++ repF u n
theorem repF_len (u : List UInt8) : ∀ n, (repF u n).length = u.length * n
  | 0 => rfl
  | n + 1 => by rw [repF, List.length_append, repF_len u n, Nat.mul_succ, Nat.add_comm]
theorem repF_add (u : List UInt8) : ∀ n m, repF u (n + m) = repF u n ++ repF u m
  | 0, m => by rw [Nat.zero_add]; rfl
  | n + 1, m => by rw [Nat.succ_add, repF, repF, repF_add u n m, List.append_assoc]
end Edict
