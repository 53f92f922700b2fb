/- Names, as print looks at them. -/
import Derived.Test.YteiopegaiohglaaDoorPgS
import Derived.Test.YteiopegaiohglaaDoorPsFs
namespace Edict
def smallB (n : Int) : Bool := decide (97 ≤ n) && decide (n ≤ 122)
def bigB (n : Int) : Bool := (decide (65 ≤ n) && decide (n ≤ 90)) || decide (n = 95)
def okB (n : Int) : Bool := smallB n || bigB n || !(decide (n < 48) || decide (57 < n))
def wordB (f : Int → Bool) : List UInt8 → Bool
  | [] => false
  | b :: r => decide (r.length + 1 ≤ 64) && (f b.toNat && r.all fun c => okB c.toNat)
def nameB (s : List UInt8) : Bool := !decide (s = [110, 111, 116]) && wordB smallB s
abbrev Const := ConstT
abbrev Fact := List UInt8 × List Const
theorem all_take {s : List UInt8} {f : UInt8 → Bool} {i : Nat} {b : UInt8} (hb : s[i]? = some b) : (s.take (i + 1)).all f = ((s.take i).all f && f b) := by
  rw [List.take_add_one, hb, Option.toList_some, List.all_append]; simp
theorem all_none {s : List UInt8} {f : UInt8 → Bool} {i : Nat} {b : UInt8} (hb : s[i]? = some b) (hf : f b = false) : s.all f = false := by
  cases h : s.all f with
  | false => rfl
  | true => rw [List.all_eq_true] at h; rw [h b (List.mem_of_getElem? hb)] at hf; cases hf
end Edict
namespace Go.Proofs.YteiopegaiohglaaDoor
open Go Go.Ev Edict

def C_byte (f : Int → Bool) (vs : List Value) (h : H) (K : Value → H → Prop) : Prop := ∃ n : Int, vs = [.int .u8 n] ∧ K (.bool (f n)) h
theorem symSmall_ok {vs : List Value} {h : H} {K : Value → H → Prop} {KP : List PanicEntry → H → Prop} (hC : C_byte smallB vs h K) : HCX Tryd.prog 41 vs h K KP := by
  obtain ⟨n, rfl, hK⟩ := hC
  refine symSmall_H (fun _ _ _ _ _ => False) (fun _ _ _ _ _ h => h.elim) _ ?_
  simp (disch := first | omega | (simp only [e_ssz, e_psz, e_hszs, List.length_cons, List.length_nil]; try omega; done)) only [↓reduceIte, go_sem, symSmall_S, symSmall_E]
  exact hK
theorem symBig_ok {vs : List Value} {h : H} {K : Value → H → Prop} {KP : List PanicEntry → H → Prop} (hC : C_byte bigB vs h K) : HCX Tryd.prog 48 vs h K KP := by
  obtain ⟨n, rfl, hK⟩ := hC
  refine symBig_H (fun _ _ _ _ _ => False) (fun _ _ _ _ _ h => h.elim) _ ?_
  simp (disch := first | omega | (simp only [e_ssz, e_psz, e_hszs, List.length_cons, List.length_nil]; try omega; done)) only [↓reduceIte, go_sem, symBig_S, symBig_E]
  exact hK
def C_symWord (vs : List Value) (h : H) (K : Value → H → Prop) : Prop :=
  ∃ (u : U) (s : List UInt8) (g : FuncId) (f : Int → Bool), vs = [str s, .func (.func g) #[] #[]] ∧ ((g = 41 ∧ f = smallB) ∨ (g = 48 ∧ f = bigB)) ∧ s.length ≤ 9223372036854775807 ∧ ∀ u' h', Step S0 u h u' h' → K (.bool (wordB f s)) h'
def G_symWord : Ctr := fun f vs h K _ => (f = 41 ∧ C_byte smallB vs h K) ∨ (f = 48 ∧ C_byte bigB vs h K)
theorem G_symWord_ok : GOk Tryd.prog G_symWord := by
  rintro f vs h K KP (⟨rfl, hC⟩ | ⟨rfl, hC⟩)
  · exact symSmall_ok hC
  · exact symBig_ok hC
theorem symWord_ok {vs : List Value} {h : H} {K : Value → H → Prop} {KP : List PanicEntry → H → Prop} (hC : C_symWord vs h K) : HCX Tryd.prog 40 vs h K KP := by
  obtain ⟨u, s, g, f, rfl, hg, hsl, hK⟩ := hC
  refine symWord_H G_symWord G_symWord_ok _ _ ?_
  cases s with
  | nil =>
    simp (disch := first | omega | (simp only [e_ssz, e_psz, e_hszs, List.length_cons, List.length_nil]; try omega; done)) only [↓reduceIte, go_sem, symWord_S, symWord_E]
    exact hK u h (.refl _ _ _)
  | cons b r =>
    simp only [List.length_cons] at hsl
    by_cases hl : r.length + 1 ≤ 64
    · have hne := eq_false (List.cons_ne_nil b r)
      have hle := eq_false (show ¬ (64 : Int) < ((r.length + 1 : Nat) : Int) by omega)
      simp (disch := first | omega | (simp only [e_ssz, e_psz, e_hszs, List.length_cons, List.length_nil]; try omega; done)) only [↓reduceIte, go_sem, symWord_S, symWord_E, hne, hle]
      refine ⟨by omega, effS_callv ?_⟩
      have hfst : ∀ K' KP', K' (.bool (f b.toNat)) h → G_symWord g [.int .u8 (b.toNat : Int)] h K' KP' := by
        intro K' KP' hk
        rcases hg with ⟨rfl, rfl⟩ | ⟨rfl, rfl⟩
        · exact .inl ⟨rfl, _, rfl, hk⟩
        · exact .inr ⟨rfl, _, rfl, hk⟩
      refine hfst _ _ ⟨by simp (disch := first | omega | (simp only [e_ssz, e_psz, e_hszs, List.length_cons, List.length_nil]; try omega; done)) only [go_sem], ?_⟩
      simp only [wordB, eq_true hl, decide_true, Bool.true_and] at hK
      cases hf : f b.toNat with
      | false =>
        rw [hf] at hK
        simp (disch := first | omega | (simp only [e_ssz, e_psz, e_hszs, List.length_cons, List.length_nil]; try omega; done)) only [↓reduceIte, go_sem, hne, hle]
        exact hK u h (.refl _ _ _)
      | true =>
        rw [hf] at hK
        simp only [Bool.true_and] at hK
        simp (disch := first | omega | (simp only [e_ssz, e_psz, e_hszs, List.length_cons, List.length_nil]; try omega; done)) only [↓reduceIte, go_sem, hne, hle]
        refine ⟨by omega, effS_s2b u (by omega) fun cap u2 h2 hcap s2 hlt2 hz hcell => ⟨by simp (disch := first | omega | (simp only [e_ssz, e_psz, e_hszs, List.length_cons, List.length_nil]; try omega; done)) only [go_sem], ?_⟩⟩
        simp (disch := first | omega | (simp only [e_ssz, e_psz, e_hszs, List.length_cons, List.length_nil]; try omega; done)) only [↓reduceIte, go_sem]
        obtain ⟨I, hI⟩ : ∃ I : Nat → Env → H → Prop, I = fun j σ h' => σ 23 = .slice (some ⟨h.size, 0, none⟩) r.length cap ∧ σ 24 = .int .i64 r.length ∧ σ 25 = .int .i64 j ∧ j ≤ r.length ∧ (r.take j).all (fun c => okB c.toNat) = true ∧ h' = h2 := ⟨_, rfl⟩
        refine wpS_loop I (fun j => r.length - j) 0 (by rw [hI]; exact ⟨by simp [upd], by simp [upd], by simp [upd], Nat.zero_le _, rfl, rfl⟩) ?_
        intro j σ h' hy
        rw [hI] at hy
        obtain ⟨e23, e24, e25, hj, hall, rfl⟩ := hy
        by_cases hlt : j < r.length
        · obtain ⟨c, hc⟩ : ∃ c, r[j]? = some c := ⟨r[j], by simp [hlt]⟩
          have hcl : Go.Ev.hv h' h.size (j * 1) = .int .u8 c.toNat := by rw [Nat.mul_one]; exact hcell j c hc
          have yes : ∀ σ', σ' 23 = .slice (some ⟨h.size, 0, none⟩) r.length cap → σ' 24 = .int .i64 r.length → σ' 25 = .int .i64 ((j : Int) + 1) → okB c.toNat = true → ∃ y, I y σ' h' ∧ r.length - y < r.length - j := fun σ' q1 q2 q3 q4 =>
            ⟨j + 1, by rw [hI]; exact ⟨q1, q2, q3, hlt, by rw [all_take hc, hall, q4]; rfl, rfl⟩, by omega⟩
          have no : okB c.toNat = false → K (.bool false) h' := fun q => by
            rw [all_none (f := fun c => okB c.toNat) hc q] at hK
            exact hK _ _ s2
          simp only [okB] at yes no
          cases h1 : smallB c.toNat <;> cases h2 : bigB c.toNat
          all_goals
            simp only [h1, h2, Bool.false_or, Bool.true_or, true_implies] at yes no
            simp (disch := first | omega | (simp only [e_ssz, e_psz, e_hszs, List.length_cons, List.length_nil]; try omega; done)) only [↓reduceIte, go_sem, e_call, symWord_L1, e23, e24, e25, hlt, hcl, G_symWord, C_byte, h1, h2]
          · refine ⟨fun hx => no ?_, fun hx => yes _ (by simp [upd, e23]) (by simp [upd, e24]) (by simp [upd]) ?_⟩
            · rw [Bool.not_eq_false', Bool.or_eq_true, decide_eq_true_eq, decide_eq_true_eq]; exact hx
            · rw [Bool.not_eq_true', Bool.or_eq_false_iff, decide_eq_false_iff_not, decide_eq_false_iff_not]
              exact ⟨fun h => hx (.inl h), fun h => hx (.inr h)⟩
          all_goals exact yes _ (by simp [upd, e23]) (by simp [upd, e24]) (by simp [upd])
        · obtain rfl : j = r.length := by omega
          rw [List.take_length] at hall
          rw [hall] at hK
          simp (disch := first | omega | (simp only [e_ssz, e_psz, e_hszs, List.length_cons, List.length_nil]; try omega; done)) only [↓reduceIte, go_sem, symWord_L1, e24, e25]
          exact hK _ _ s2
    · simp (disch := first | omega | (simp only [e_ssz, e_psz, e_hszs, List.length_cons, List.length_nil]; try omega; done)) only [↓reduceIte, go_sem, symWord_S, symWord_E, eq_false (List.cons_ne_nil b r), eq_true (show (64 : Int) < ((r.length + 1 : Nat) : Int) by omega)]
      simp only [wordB, eq_false hl, decide_false, Bool.false_and] at hK
      exact hK u h (.refl _ _ _)
def C_str (f : List UInt8 → Bool) (vs : List Value) (h : H) (K : Value → H → Prop) : Prop := ∃ (u : U) (s : List UInt8), vs = [str s] ∧ s.length ≤ 9223372036854775807 ∧ ∀ u' h', Step S0 u h u' h' → K (.bool (f s)) h'
def G_symName : Ctr := fun f vs h K _ => f = 40 ∧ C_symWord vs h K
theorem G_symName_ok : GOk Tryd.prog G_symName := by
  rintro f vs h K KP ⟨rfl, hC⟩; exact symWord_ok hC
theorem symIsName_ok {vs : List Value} {h : H} {K : Value → H → Prop} {KP : List PanicEntry → H → Prop} (hC : C_str nameB vs h K) : HCX Tryd.prog 28 vs h K KP := by
  obtain ⟨u, s, rfl, hsl, hK⟩ := hC
  refine symIsName_H G_symName G_symName_ok _ ?_
  by_cases hn : s = [110, 111, 116]
  · simp only [nameB, eq_true hn, decide_true, Bool.not_true, Bool.false_and] at hK
    simp (disch := first | omega | (simp only [e_ssz, e_psz, e_hszs, List.length_cons, List.length_nil]; try omega; done)) only [↓reduceIte, go_sem, symIsName_S, symIsName_E, eq_true hn]
    exact hK u h (.refl _ _ _)
  · simp only [nameB, eq_false hn, decide_false, Bool.not_false, Bool.true_and] at hK
    simp (disch := first | omega | (simp only [e_ssz, e_psz, e_hszs, List.length_cons, List.length_nil]; try omega; done)) only [↓reduceIte, go_sem, symIsName_S, symIsName_E, eq_false hn]
    refine effS_call ⟨rfl, u, s, _, _, rfl, .inl ⟨rfl, rfl⟩, hsl, fun u2 h2 s2 => ⟨by simp (disch := first | omega | (simp only [e_ssz, e_psz, e_hszs, List.length_cons, List.length_nil]; try omega; done)) only [go_sem], ?_⟩⟩
    simp (disch := first | omega | (simp only [e_ssz, e_psz, e_hszs, List.length_cons, List.length_nil]; try omega; done)) only [↓reduceIte, go_sem, eq_false hn]
    exact hK _ _ s2
end Go.Proofs.YteiopegaiohglaaDoor
