/- Two texts one behind the other: the clauses of both; where the things of an answer stand. -/
import Derived.Test.YtmnfhmbmifompaaDoorPqF
import Derived.Test.YtmnfhmbmifompaaDoorPlE
namespace Edict
/-- A text that a reader takes: its tokens are the right ones and the end. -/
theorem flt_right {f : Int} {A : List UInt8} (h : fltF f A = (0, 0)) : A.length ≤ 65536 ∧ badF A = (0, 0) ∧ ∃ p, scanK A 0 = (p ++ [endT A.length], 0, 0) ∧ (∀ x ∈ p, tK x ≠ 0) ∧ chkF f (0, 0) f 0 0 0 (p ++ [endT A.length]) = (0, 0) := by
  have hl : A.length ≤ 65536 := Nat.le_of_not_lt fun q => by unfold fltF at h; rw [if_pos q] at h; exact absurd (congrArg Prod.fst h) (by decide)
  have e : fltF f A = chkF f (badF A) f 0 0 0 (scanK A 0).1 := by unfold fltF; rw [if_neg (by omega), scanF_is hl]
  rw [h] at e
  have hg := good_src hl
  rw [scanF_is hl] at hg
  rcases hg with ⟨g1, g2⟩ | ⟨g1, p, t, g2, g3, g4⟩
  · exfalso
    rcases chk_where (f := f) (bad := badF A) (scanK A 0).1 f 0 0 0 with q | ⟨p, x, q, -, -, q2⟩
    · rw [q] at e; rw [← e] at g1; exact g1 rfl
    · rw [← e] at q2
      rcases q2 with q2 | q2
      · exact refuse_ne x (by rw [← q2])
      · exact absurd q2.1 (by decide)
  · refine ⟨hl, g1, p, ?_, g4, ?_⟩
    · obtain ⟨h1, -⟩ := scan_sorted (s := A) (k := 0) (l := (scanK A 0).1) (f := (scanK A 0).2) (Nat.zero_le _) rfl
      have ht : t = endT A.length := (h1 t (by rw [g2]; simp)).2.2.2 g3
      have hb : (scanK A 0).2 = (0, 0) := by
        unfold badF at g1
        rw [scanF_is hl] at g1
        have w1 := congrArg Prod.fst g1
        have w2 := congrArg Prod.snd g1
        simp only at w1 w2
        exact Prod.ext w1 (show (scanK A 0).2.2 = 0 by omega)
      rw [← ht, ← g2, ← hb]
    · have ht : t = endT A.length := by
        obtain ⟨h1, -⟩ := scan_sorted (s := A) (k := 0) (l := (scanK A 0).1) (f := (scanK A 0).2) (Nat.zero_le _) rfl
        exact (h1 t (by rw [g2]; simp)).2.2.2 g3
      rw [← ht, ← g2]; rw [g1] at e; exact e.symm
theorem cut_drop (P : List (List Tok)) (k : Int) (d : Int) (now r : List Tok) : (P ++ cutF k d now r).dropLast = P ++ (cutF k d now r).dropLast := List.dropLast_append_of_ne_nil (cutF_ne k r d now)
/-- Two texts, the first one right. -/
theorem join_at {f : Int} (hf : f = 0 ∨ f = 15) {A B : List UInt8} (hA : fltF f A = (0, 0)) (hl : A.length + 1 + B.length ≤ 65536) : ∃ p P, (scanF A).1 = p ++ [endT A.length] ∧ badF A = (0, 0) ∧ (∀ x ∈ p, tK x ≠ 0) ∧ sentF (p ++ [endT A.length]) = P ∧ (∀ r, sentF (p ++ r) = P ++ sentF r) ∧
    (scanF (A ++ 10 :: B)).1 = p ++ (scanF B).1.map (shT (A.length + 1)) ∧ badF (A ++ 10 :: B) = shE (A.length + 1) (badF B) ∧
    ∃ n m, n ≤ 16 ∧ m ≤ 8 ∧ ∀ bad r, chkF f bad f 0 0 0 (p ++ r) = chkF f bad f P.length n m r := by
  obtain ⟨h1, h2, p, h3, h4, h5⟩ := flt_right hA
  have hr : Rch f f := by unfold Rch; rcases hf with rfl | rfl <;> decide
  obtain ⟨n, m, P, g1, g2, g3, g4, -⟩ := chk_run hf (bad := (0, 0)) (e := endT A.length) rfl p f 0 0 0 [] h4 hr (fun _ => rfl) (by omega) (by omega) h5 rfl
  have hd : depS f = 0 := by rcases hf with rfl | rfl <;> decide
  rw [hd] at g4
  have hj := scan_join (A := A) (B := B) (r := p) (k := 0) (Nat.zero_le _) h4 h3
  have hlen : (A ++ 10 :: B).length ≤ 65536 := by simp; omega
  have hlB : B.length ≤ 65536 := by omega
  refine ⟨p, P, by rw [scanF_is h1, h3], h2, h4, ?_, fun r => ?_, by rw [scanF_is hlen, scanF_is hlB, hj], ?_, n, m, g1, g2, fun bad r => ?_⟩
  · unfold sentF
    rw [g4]
    have : cutF 8 0 [] [endT A.length] = [[endT A.length]] := by
      rw [cutF, if_neg (by rintro ⟨q, -⟩; exact absurd q (show ¬ ((0 : Int) = 8) by decide))]; rfl
    rw [this]
    simp
  · unfold sentF
    rw [g4, cut_drop]
  · unfold badF
    rw [scanF_is hlen, scanF_is hlB, hj]
    unfold shF shE
    simp only
    by_cases h0 : (scanK B 0).2.1 = 0
    · rw [if_pos h0, if_pos h0]
    · rw [if_neg h0, if_neg h0]
      refine Prod.ext rfl ?_
      simp only; omega
  · have := g3 bad r
    rw [if_pos rfl] at this
    simpa using this
theorem good_sh {b : Nat} {l : List Tok} {bad : Flt} (h : GoodR l bad) : GoodR (l.map (shT b)) (shE b bad) := by
  rcases h with ⟨h1, h2⟩ | ⟨rfl, p, e, rfl, h3, h4⟩
  · refine .inl ⟨?_, fun t ht => ?_⟩
    · unfold shE; rw [if_neg h1]; exact h1
    · obtain ⟨x, hx, rfl⟩ := List.mem_map.1 ht; exact h2 x hx
  · refine .inr ⟨rfl, p.map (shT b), shT b e, by simp, h3, fun t ht => ?_⟩
    obtain ⟨x, hx, rfl⟩ := List.mem_map.1 ht; exact h4 x hx
theorem shE_ne {b : Nat} {e : Flt} (h : e.1 ≠ 0) : (shE b e).1 ≠ 0 := by unfold shE; rw [if_neg h]; exact h
theorem prog_any {bad : Flt} {l : List Tok} (acc : List ClauseT) (li te : Nat) (h1 : acc.length ≤ 512) (h2 : li ≤ 16) (h3 : te ≤ 8) (hg : GoodR l bad) : (∀ e, progD bad acc l = .error e → chkF 0 bad 0 acc.length li te l = e ∧ e.1 ≠ 0) ∧ ∀ a, progD bad acc l = .ok a → chkF 0 bad 0 acc.length li te l = (0, 0) := by
  have := all_chk (hone := fun _ _ _ h => clauseD_len h) (F := clauseF) (Gd := ClauseWf) (.inl ⟨rfl, rfl⟩) (fun {c li te} h1 h2 {t l} h3 h4 h5 => clause_chk (bad := bad) h1 h2 h3 h4 h5) l acc li te h1 h2 h3 hg
  exact ⟨this.1, fun a h => (this.2 a h).1⟩
theorem facts_any {bad : Flt} {l : List Tok} (acc : List AtomT) (li te : Nat) (h1 : acc.length ≤ 4096) (h2 : li ≤ 16) (h3 : te ≤ 8) (hg : GoodR l bad) : (∀ e, factsD bad acc l = .error e → chkF 15 bad 15 acc.length li te l = e ∧ e.1 ≠ 0) ∧ ∀ a, factsD bad acc l = .ok a → chkF 15 bad 15 acc.length li te l = (0, 0) := by
  have := all_chk (hone := fun _ _ _ h => factD1_len h) (F := atomF) (Gd := fun s => s ≠ []) (.inr ⟨rfl, rfl⟩) (fun {c li te} h1 h2 {t l} h3 h4 h5 => fact_chk (bad := bad) h1 h2 h3 h4 h5) l acc li te h1 h2 h3 hg
  exact ⟨this.1, fun a h => (this.2 a h).1⟩
/-- P3.1, P3.2: the clauses of both, or the second's fault. -/
theorem join_prog {A B : List UInt8} (hA : (resProg A).2 = (0, 0)) (hl : A.length + 1 + B.length ≤ 65536) (hc : (resProg A).1.length + B.length ≤ 512) :
    ((resProg B).2.1 ≠ 0 → resProg (A ++ 10 :: B) = ([], shE (A.length + 1) (resProg B).2)) ∧ ((resProg B).2 = (0, 0) → resProg (A ++ 10 :: B) = ((resProg A).1 ++ (resProg B).1.map (shC (A.length + 1)), (0, 0))) := by
  have hlA : A.length ≤ 65536 := by omega
  have hlB : B.length ≤ 65536 := by omega
  have hlJ : (A ++ 10 :: B).length ≤ 65536 := by simp; omega
  have hfA : fltF 0 A = (0, 0) := by
    rcases resProg_cases A with ⟨e, q1, q2, q3⟩ | ⟨a, q1, q3⟩
    · rw [q1] at hA; exact absurd (congrArg Prod.fst hA) q2
    · exact prog_flt.2 a q3
  obtain ⟨p, P, j1, j2, j3, j4, j5, j6, j7, n, m, j8, j9, j10⟩ := join_at (.inl rfl) hfA hl
  have hP : (resProg A).1 = P.map clauseF := by
    rcases resProg_cases A with ⟨e, q1, q2, q3⟩ | ⟨a, q1, q3⟩
    · rw [q1] at hA; exact absurd (congrArg Prod.fst hA) q2
    · rw [q1]
      have := ((prog_same (good_src hlA)).2 a (by unfold parseF at q3; rw [if_neg (by omega)] at q3; exact q3)).2.1
      rw [this, j1, j4]
  have hPl : P.length + B.length ≤ 512 := by rw [hP, List.length_map] at hc; exact hc
  obtain ⟨r, hr⟩ : ∃ r, r = (scanF B).1.map (shT (A.length + 1)) := ⟨_, rfl⟩
  obtain ⟨bd, hbd⟩ : ∃ bd, bd = shE (A.length + 1) (badF B) := ⟨_, rfl⟩
  have hgB := good_src hlB
  have hg : GoodR r bd := by rw [hr, hbd]; exact good_sh hgB
  have hcn : cnt r ≤ B.length := by rw [hr, cnt_sh, scanF_is hlB]; exact cnt_few B
  have hchk : chkF 0 bd 0 0 0 0 (p ++ r) = chkF 0 bd 0 0 n m r := by
    rw [j10]
    exact cap_free (.inl rfl) r _ _ _ _ _ (by unfold capM; simp; omega) (by unfold capM; simp; omega)
  have hsh := prog_sh (b := A.length + 1) (badF B) (scanF B).1 []
  rw [List.map_nil, ← hr, ← hbd] at hsh
  have hfJ : fltF 0 (A ++ 10 :: B) = chkF 0 bd 0 0 0 0 (p ++ r) := by unfold fltF; rw [if_neg (by omega), j6, j7, ← hr, ← hbd]
  have hany := prog_any (bad := bd) (l := r) [] n m (by simp) j8 j9 hg
  rcases resProg_cases B with ⟨e, q1, q2, q3⟩ | ⟨a, q1, q3⟩
  · unfold parseF at q3
    rw [if_neg (by omega)] at q3
    simp only at q3
    rw [q3] at hsh
    obtain ⟨k1, k2⟩ := hany.1 _ hsh
    simp only [List.length_nil] at k1
    refine ⟨fun _ => ?_, fun q => ?_⟩
    · rw [q1]
      rcases resProg_cases (A ++ 10 :: B) with ⟨e', w1, w2, w3⟩ | ⟨a, w1, w3⟩
      · have := prog_flt.1 e' w3
        rw [hfJ, hchk, k1] at this
        rw [w1, ← this]
      · have := prog_flt.2 a w3
        rw [hfJ, hchk, k1] at this
        rw [this] at k2; exact absurd rfl k2
    · rw [q1] at q; exact absurd (congrArg Prod.fst q) q2
  · have q3' := q3
    unfold parseF at q3
    rw [if_neg (by omega)] at q3
    simp only at q3
    rw [q3] at hsh
    have k1 := hany.2 _ hsh
    simp only [List.length_nil] at k1
    refine ⟨fun q => ?_, fun _ => ?_⟩
    · rw [q1] at q; exact absurd rfl q
    · rw [q1]
      rcases resProg_cases (A ++ 10 :: B) with ⟨e', w1, w2, w3⟩ | ⟨a', w1, w3⟩
      · have := prog_flt.1 e' w3
        rw [hfJ, hchk, k1] at this
        rw [← this] at w2; exact absurd rfl w2
      · rw [w1]
        have z := ((prog_same (good_src hlJ)).2 a' (by unfold parseF at w3; rw [if_neg (by omega)] at w3; exact w3)).2.1
        have y := ((prog_same hg).2 _ hsh).2.1
        rw [z, j6, ← hr, j5, List.map_append, ← hP, ← y]
theorem join_facts {A B : List UInt8} (hA : (resFacs A).2 = (0, 0)) (hl : A.length + 1 + B.length ≤ 65536) (hc : (resFacs A).1.length + B.length ≤ 4096) :
    ((resFacs B).2.1 ≠ 0 → resFacs (A ++ 10 :: B) = ([], shE (A.length + 1) (resFacs B).2)) ∧ ((resFacs B).2 = (0, 0) → resFacs (A ++ 10 :: B) = ((resFacs A).1 ++ (resFacs B).1.map (shA (A.length + 1)), (0, 0))) := by
  have hlA : A.length ≤ 65536 := by omega
  have hlB : B.length ≤ 65536 := by omega
  have hlJ : (A ++ 10 :: B).length ≤ 65536 := by simp; omega
  have hfA : fltF 15 A = (0, 0) := by
    rcases resFacs_cases A with ⟨e, q1, q2, q3⟩ | ⟨a, q1, q3⟩
    · rw [q1] at hA; exact absurd (congrArg Prod.fst hA) q2
    · exact facts_flt.2 a q3
  obtain ⟨p, P, j1, j2, j3, j4, j5, j6, j7, n, m, j8, j9, j10⟩ := join_at (.inr rfl) hfA hl
  have hP : (resFacs A).1 = P.map atomF := by
    rcases resFacs_cases A with ⟨e, q1, q2, q3⟩ | ⟨a, q1, q3⟩
    · rw [q1] at hA; exact absurd (congrArg Prod.fst hA) q2
    · rw [q1]
      have := ((facts_same (good_src hlA)).2 a (by unfold parseF at q3; rw [if_neg (by omega)] at q3; exact q3)).2.1
      rw [this, j1, j4]
  have hPl : P.length + B.length ≤ 4096 := by rw [hP, List.length_map] at hc; exact hc
  obtain ⟨r, hr⟩ : ∃ r, r = (scanF B).1.map (shT (A.length + 1)) := ⟨_, rfl⟩
  obtain ⟨bd, hbd⟩ : ∃ bd, bd = shE (A.length + 1) (badF B) := ⟨_, rfl⟩
  have hgB := good_src hlB
  have hg : GoodR r bd := by rw [hr, hbd]; exact good_sh hgB
  have hcn : cnt r ≤ B.length := by rw [hr, cnt_sh, scanF_is hlB]; exact cnt_few B
  have hchk : chkF 15 bd 15 0 0 0 (p ++ r) = chkF 15 bd 15 0 n m r := by
    rw [j10]
    exact cap_free (.inr rfl) r _ _ _ _ _ (by unfold capM; simp; omega) (by unfold capM; simp; omega)
  have hsh := facts_sh (b := A.length + 1) (badF B) (scanF B).1 []
  rw [List.map_nil, ← hr, ← hbd] at hsh
  have hfJ : fltF 15 (A ++ 10 :: B) = chkF 15 bd 15 0 0 0 (p ++ r) := by unfold fltF; rw [if_neg (by omega), j6, j7, ← hr, ← hbd]
  have hany := facts_any (bad := bd) (l := r) [] n m (by simp) j8 j9 hg
  rcases resFacs_cases B with ⟨e, q1, q2, q3⟩ | ⟨a, q1, q3⟩
  · unfold parseF at q3
    rw [if_neg (by omega)] at q3
    simp only at q3
    rw [q3] at hsh
    obtain ⟨k1, k2⟩ := hany.1 _ hsh
    simp only [List.length_nil] at k1
    refine ⟨fun _ => ?_, fun q => ?_⟩
    · rw [q1]
      rcases resFacs_cases (A ++ 10 :: B) with ⟨e', w1, w2, w3⟩ | ⟨a, w1, w3⟩
      · have := facts_flt.1 e' w3
        rw [hfJ, hchk, k1] at this
        rw [w1, ← this]
      · have := facts_flt.2 a w3
        rw [hfJ, hchk, k1] at this
        rw [this] at k2; exact absurd rfl k2
    · rw [q1] at q; exact absurd (congrArg Prod.fst q) q2
  · unfold parseF at q3
    rw [if_neg (by omega)] at q3
    simp only at q3
    rw [q3] at hsh
    have k1 := hany.2 _ hsh
    simp only [List.length_nil] at k1
    refine ⟨fun q => ?_, fun _ => ?_⟩
    · rw [q1] at q; exact absurd rfl q
    · rw [q1]
      rcases resFacs_cases (A ++ 10 :: B) with ⟨e', w1, w2, w3⟩ | ⟨a', w1, w3⟩
      · have := facts_flt.1 e' w3
        rw [hfJ, hchk, k1] at this
        rw [← this] at w2; exact absurd rfl w2
      · rw [w1]
        have z := ((facts_same (good_src hlJ)).2 a' (by unfold parseF at w3; rw [if_neg (by omega)] at w3; exact w3)).2.1
        have y := ((facts_same hg).2 _ hsh).2.1
        rw [z, j6, ← hr, j5, List.map_append, ← hP, ← y]
/-! ### Where the things of an answer stand -/
def OffOk (o : Int) : Prop := 0 ≤ o ∧ o ≤ 65536
def OkTm (t : TermT) : Prop := OffOk t.2.2.2
def OkA (a : AtomT) : Prop := OffOk a.2.2 ∧ (∀ t ∈ a.2.1, OkTm t) ∧ a.2.1.length ≤ 70000
def OkL (x : LitT) : Prop := OkA x.2.1 ∧ OkTm x.2.2.2.1 ∧ OkTm x.2.2.2.2.1 ∧ OffOk x.2.2.2.2.2
def OkC (c : ClauseT) : Prop := OkA c.1 ∧ (∀ x ∈ c.2, OkL x) ∧ c.2.length ≤ 70000
theorem cut_mem {k : Int} : ∀ (l : List Tok) (d : Int) (now p : List Tok) (x : Tok), p ∈ cutF k d now l → x ∈ p → x ∈ now ∨ x ∈ l
  | [], d, now, p, x, hp, hx => by
    rw [cutF] at hp
    simp only [List.mem_cons, List.not_mem_nil, or_false] at hp
    rw [hp] at hx; exact .inl hx
  | t :: l, d, now, p, x, hp, hx => by
    rw [cutF] at hp
    split at hp
    · rcases List.mem_cons.1 hp with rfl | hp
      · exact .inl hx
      · rcases cut_mem l _ _ p x hp hx with q | q
        · cases q
        · exact .inr (List.mem_cons_of_mem _ q)
    · rcases cut_mem l _ _ p x hp hx with q | q
      · rcases List.mem_append.1 q with q | q
        · exact .inl q
        · simp only [List.mem_cons, List.not_mem_nil, or_false] at q
          rw [q]; exact .inr (by simp)
      · exact .inr (List.mem_cons_of_mem _ q)
theorem cut_len {k : Int} : ∀ (l : List Tok) (d : Int) (now p : List Tok), p ∈ cutF k d now l → p.length ≤ now.length + l.length
  | [], d, now, p, hp => by
    rw [cutF] at hp
    simp only [List.mem_cons, List.not_mem_nil, or_false] at hp
    rw [hp]; exact Nat.le_add_right _ _
  | t :: l, d, now, p, hp => by
    rw [cutF] at hp
    simp only [List.length_cons]
    split at hp
    · rcases List.mem_cons.1 hp with rfl | hp
      · omega
      · have := cut_len l _ _ p hp
        simp only [List.length_nil] at this; omega
    · have := cut_len l _ _ p hp
      simp only [List.length_append, List.length_cons, List.length_nil] at this; omega
theorem cut_few {k : Int} : ∀ (l : List Tok) (d : Int) (now : List Tok), (cutF k d now l).length ≤ 1 + l.length
  | [], d, now => by rw [cutF]; simp
  | t :: l, d, now => by
    rw [cutF]
    simp only [List.length_cons]
    split
    · have := cut_few (k := k) l (depF d (tK t)) []
      simp only [List.length_cons]; omega
    · have := cut_few (k := k) l (depF d (tK t)) (now ++ [t])
      omega
def TL (l : List Tok) : Prop := (∀ t ∈ l, OffOk (tO t)) ∧ l.length ≤ 69999
theorem TL.cut {k : Int} {l p : List Tok} (h : TL l) (hp : p ∈ cutF k 0 [] l) : TL p :=
  ⟨fun t ht => h.1 t ((cut_mem _ _ _ _ _ hp ht).resolve_left (fun q => by cases q)), by have := cut_len _ _ _ _ hp; have := h.2; simp only [List.length_nil] at *; omega⟩
theorem TL.tail {t : Tok} {l : List Tok} (h : TL (t :: l)) : TL l := ⟨fun y hy => h.1 y (List.mem_cons_of_mem _ hy), by have := h.2; simp only [List.length_cons] at this; omega⟩
theorem off_0 : OffOk 0 := ⟨by decide, by decide⟩
theorem okA_no : OkA noAtom := ⟨off_0, (fun _ h => by cases h), by decide⟩
theorem okTm_no : OkTm noTerm := off_0
theorem okTm {t : Tok} (h : OffOk (tO t)) : OkTm (termD t) := by
  unfold termD OkTm
  repeat' split
  all_goals exact h
theorem okA {l : List Tok} (h : TL l) : OkA (atomF l) := by
  cases l with
  | nil => exact okA_no
  | cons t l =>
    refine ⟨h.1 t (by simp), fun x hx => ?_, ?_⟩
    · simp only [atomF, argsOf] at hx
      obtain ⟨y, hy, rfl⟩ := List.mem_map.1 hx
      exact okTm (h.1 y (List.mem_cons_of_mem _ (List.mem_filter.1 hy).1))
    · have := List.length_filter_le (fun t => isT (tK t) true) l
      have h2 := h.2
      simp only [atomF, argsOf, List.length_map, List.length_cons] at h2 ⊢
      omega
theorem okL {l : List Tok} (h : TL l) : OkL (litF l) := by
  cases l with
  | nil => exact ⟨okA_no, okTm_no, okTm_no, off_0⟩
  | cons t l =>
    have ht := h.1 t (by simp)
    rw [litF.eq_def]
    simp only
    split
    · exact ⟨okA h.tail, okTm_no, okTm_no, ht⟩
    · split
      · rename_i o y
        split
        · exact ⟨okA_no, okTm ht, okTm (h.1 y (by simp)), ht⟩
        · exact ⟨okA h, okTm_no, okTm_no, ht⟩
      · exact ⟨okA h, okTm_no, okTm_no, ht⟩
def OkB (b : List LitT) : Prop := (∀ x ∈ b, OkL x) ∧ b.length ≤ 70000
theorem okB {l : List Tok} (h : TL l) : OkB (bodyF3 l) := by
  refine ⟨fun x hx => ?_, ?_⟩
  · unfold bodyF3 at hx
    obtain ⟨p, hp, rfl⟩ := List.mem_map.1 hx
    exact okL (h.cut hp)
  · unfold bodyF3
    rw [List.length_map]
    have := cut_few (k := 7) l 0 []
    have := h.2
    omega
theorem okC {l : List Tok} (h : TL l) : OkC (clauseF l) := by
  have hc : ∀ p ∈ cutF 9 0 [] l, TL p := fun p hp => h.cut hp
  unfold clauseF
  split
  · rename_i a b e
    rw [e] at hc
    exact ⟨okA (hc a (by simp)), okB (hc b (by simp))⟩
  · rename_i a r _ e
    rw [e] at hc
    exact ⟨okA (hc a (by simp)), (fun x hx => by cases hx), Nat.zero_le _⟩
  · exact ⟨okA_no, (fun x hx => by cases hx), Nat.zero_le _⟩
theorem scan_off {s : List UInt8} (h : s.length ≤ 65536) : TL (scanF s).1 := by
  rw [scanF_is h]
  obtain ⟨h1, h2⟩ := scan_sorted (s := s) (k := 0) (l := (scanK s 0).1) (f := (scanK s 0).2) (Nat.zero_le _) rfl
  refine ⟨fun t ht => ?_, ?_⟩
  · obtain ⟨a, b, -, -⟩ := h1 t ht
    exact ⟨by omega, by omega⟩
  · have := few_toks (scanK s 0).1 0 (s.length + 1) (fun t ht => by
      obtain ⟨a, b, -, -⟩ := h1 t ht
      omega) h2 (by omega)
    omega
theorem TL.sent {l p : List Tok} (h : TL l) (hp : p ∈ sentF l) : TL p := by
  unfold sentF at hp
  exact h.cut (List.dropLast_subset _ hp)
theorem prog_off (src : List UInt8) : ∀ c ∈ (resProg src).1, OkC c := by
  rcases resProg_cases src with ⟨e, q1, q2, q3⟩ | ⟨a, q1, q3⟩
  · rw [q1]; intro c hc; cases hc
  · rw [q1]
    unfold parseF at q3
    split at q3
    · cases q3
    · rename_i hl
      have hl' : src.length ≤ 65536 := by omega
      have := ((prog_same (good_src hl')).2 a q3).2.1
      intro c hc
      simp only at hc
      rw [this] at hc
      obtain ⟨p, hp, rfl⟩ := List.mem_map.1 hc
      exact okC ((scan_off hl').sent hp)
theorem facs_off (src : List UInt8) : ∀ c ∈ (resFacs src).1, OkA c := by
  rcases resFacs_cases src with ⟨e, q1, q2, q3⟩ | ⟨a, q1, q3⟩
  · rw [q1]; intro c hc; cases hc
  · rw [q1]
    unfold parseF at q3
    split at q3
    · cases q3
    · rename_i hl
      have hl' : src.length ≤ 65536 := by omega
      have := ((facts_same (good_src hl')).2 a q3).2.1
      intro c hc
      simp only at hc
      rw [this] at hc
      obtain ⟨p, hp, rfl⟩ := List.mem_map.1 hc
      exact okA ((scan_off hl').sent hp)
theorem qry_off (src : List UInt8) : OkB (resQry src).1 := by
  rcases resQry_cases src with ⟨e, q1, q2, q3⟩ | ⟨a, q1, q3⟩
  · rw [q1]; exact ⟨fun c hc => (by cases hc), Nat.zero_le _⟩
  · rw [q1]
    unfold parseF at q3
    split at q3
    · cases q3
    · rename_i hl
      have hl' : src.length ≤ 65536 := by omega
      obtain ⟨-, pre, h1, h2, -⟩ := (query_same (good_src hl')).2 a q3
      rw [h2]
      exact okB ((scan_off hl').sent (p := pre) (by rw [h1]; simp))
end Edict
