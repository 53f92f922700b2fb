/- Back, in core and in the reference. -/
import Derived.Test.YtjkppoffffjkmaaBack
namespace Edict
def litB (k : Int) (ps : List Pred) (cs : List Const) (vars : List (List UInt8)) (p : Pattern) : Option Literal := (atomB ps cs vars p).map fun a => (k, a, 0, (0, 0, [], 0), (0, 0, [], 0), 0)
def testB (cs : List Const) (vars : List (List UInt8)) (t : Test) : Option Literal := (termB cs vars t.2.1).bind fun a => (termB cs vars t.2.2).map fun b => (3, ([], [], 0), t.1, a, b, 0)
def partsB (ps : List Pred) (cs : List Const) (r : Rule) : List (Option Literal) :=
  r.2.1.map (litB 1 ps cs r.2.2.2.2.1) ++ (r.2.2.1.map (testB cs r.2.2.2.2.1) ++ r.2.2.2.1.map (litB 2 ps cs r.2.2.2.2.1))
def ruleB (ps : List Pred) (cs : List Const) (r : Rule) : Clause × Int := match atomB ps cs r.2.2.2.2.1 r.1, mapS id (partsB ps cs r) with
  | some a, some b => ((a, b), 0)
  | _, _ => ((([], [], 0), []), 2)
def backB (ps : List Pred) (cs : List Const) (rules : List Rule) (rule : Int) : Clause × Int := match at? rules rule with
  | none => ((([], [], 0), []), 50)
  | some r => ruleB ps cs r
theorem parts_pos {ps : List Pred} {cs : List Const} {r : Rule} {i : Nat} {p : Pattern} (h : r.2.1[i]? = some p) : (partsB ps cs r)[i]? = some (litB 1 ps cs r.2.2.2.2.1 p) := by
  have hi := (List.getElem?_eq_some_iff.1 h).1
  unfold partsB; rw [List.getElem?_append_left (by simpa using hi), List.getElem?_map, h]; rfl
theorem parts_test {ps : List Pred} {cs : List Const} {r : Rule} {i : Nat} {p : Test} (h : r.2.2.1[i]? = some p) : (partsB ps cs r)[r.2.1.length + i]? = some (testB cs r.2.2.2.2.1 p) := by
  have hi := (List.getElem?_eq_some_iff.1 h).1
  unfold partsB; rw [List.getElem?_append_right (by simp), List.length_map, Nat.add_sub_cancel_left, List.getElem?_append_left (by simpa using hi), List.getElem?_map, h]; rfl
theorem parts_neg {ps : List Pred} {cs : List Const} {r : Rule} {i : Nat} {p : Pattern} (h : r.2.2.2.1[i]? = some p) : (partsB ps cs r)[r.2.1.length + r.2.2.1.length + i]? = some (litB 2 ps cs r.2.2.2.2.1 p) := by
  unfold partsB; rw [Nat.add_assoc, List.getElem?_append_right (by simp), List.length_map, Nat.add_sub_cancel_left, List.getElem?_append_right (by simp), List.length_map, Nat.add_sub_cancel_left, List.getElem?_map, h]; rfl
theorem parts_len {ps : List Pred} {cs : List Const} {r : Rule} : (partsB ps cs r).length = r.2.1.length + r.2.2.1.length + r.2.2.2.1.length := by simp [partsB, Nat.add_assoc]
/-- How far it has come: the parts so far, all good; or one was not. -/
def GR (good : Bool) (head : Option Atom) (parts : List (Option Literal)) (j : Nat) (body : List Literal) : Prop :=
  (good = true → head.isSome = true ∧ mapS id (parts.take j) = some body) ∧ (good = false → head = none ∨ mapS id parts = none)
theorem GR.next {head : Option Atom} {parts : List (Option Literal)} {j : Nat} {body : List Literal} {x : Option Literal} {d : Literal} (g : GR true head parts j body) (hx : parts[j]? = some x) (hd : ∀ y, x = some y → d = y) : GR x.isSome head parts (j + 1) (body ++ [d]) := by
  obtain ⟨g1, g2⟩ := g.1 rfl
  cases x with
  | none => exact ⟨fun h => (by cases h), fun _ => .inr (mapS_none (i := j + 1) (by rw [mapS_snoc hx, g2]; rfl))⟩
  | some y =>
    rw [hd y rfl]
    exact ⟨fun _ => ⟨g1, by rw [mapS_snoc hx, g2]; rfl⟩, fun h => (by cases h)⟩
theorem GR.done {good : Bool} {ps : List Pred} {cs : List Const} {r : Rule} {body : List Literal} {j : Nat} (hj : good = true → j = (partsB ps cs r).length) (g : GR good (atomB ps cs r.2.2.2.2.1 r.1) (partsB ps cs r) j body) :
    ruleB ps cs r = if good then (((atomB ps cs r.2.2.2.2.1 r.1).getD ([], [], 0), body), 0) else ((([], [], 0), []), 2) := by
  unfold ruleB
  cases good with
  | true =>
    obtain ⟨g1, g2⟩ := g.1 rfl
    rw [hj rfl, List.take_length] at g2
    obtain ⟨a, ha⟩ := Option.isSome_iff_exists.1 g1
    rw [ha, g2]; rfl
  | false =>
    rcases g.2 rfl with h | h
    · rw [h]; rfl
    · rw [h]; cases atomB ps cs r.2.2.2.2.1 r.1 <;> rfl
end Edict
namespace Go.Proofs.Ytjkppoffffjkmaa
open Go Go.Ev Edict

/-- The memory of a call of Back: the boxes, and the clause that grows. -/
structure BackI (k q : Nat) (u0 : U) (h0 : H) (rc cc : List Value) (a : Atom) (u : U) (h : H) (bv : Value) (body : List Literal) : Prop where
  st : Step S0 u0 h0 u h
  b0 : Blk u h k cc
  b1 : Blk u h (k + 1) [str [], .slice none 0 0, .int .i64 0, .slice none 0 0]
  b2 : Blk u h (k + 1 + 1) rc
  bq : ∃ av, Blk u h q [str a.1, av, .int .i64 a.2.2, bv] ∧ IsSl u h av a.2.1
  ho : Own (q + 1) u h bv body
  hk : h0.size ≤ k
  hq : k + 3 ≤ q
  hs : q + 1 ≤ h.size
theorem BackI.step {S : Nat → Prop} {k q : Nat} {u0 : U} {h0 : H} {rc cc : List Value} {a : Atom} {u u' : U} {h h' : H} {bv : Value} {body : List Literal} (b : BackI k q u0 h0 rc cc a u h bv body) (s : Step S u h u' h')
    (hS : ∀ i, S i → i ≠ k ∧ i ≠ k + 1 ∧ i ≠ k + 1 + 1 ∧ i ≠ q ∧ h0.size ≤ i ∧ ¬ OwnB bv i) : BackI k q u0 h0 rc cc a u' h' bv body := by
  obtain ⟨av, q1, q2⟩ := b.bq
  exact ⟨b.st.trans s (fun i hi h => by have := hS i h; omega), b.b0.step s (fun h => (hS _ h).1 rfl), b.b1.step s (fun h => (hS _ h).2.1 rfl), b.b2.step s (fun h => (hS _ h).2.2.1 rfl), ⟨av, q1.step s (fun h => (hS _ h).2.2.2.1 rfl), q2.mono s.ge⟩,
    b.ho.step s (fun i hi h => (hS i h).2.2.2.2.2 hi), b.hk, b.hq, Nat.le_trans b.hs s.ge.sz⟩
theorem BackI.step0 {k q : Nat} {u0 : U} {h0 : H} {rc cc : List Value} {a : Atom} {u u' : U} {h h' : H} {bv : Value} {body : List Literal} (b : BackI k q u0 h0 rc cc a u h bv body) (s : Step S0 u h u' h') : BackI k q u0 h0 rc cc a u' h' bv body := b.step s (fun _ h => h.elim)

theorem BackI.new {k q : Nat} {u0 : U} {h0 : H} {rc cc : List Value} {a : Atom} {u u' : U} {h h' : H} {bv : Value} {body : List Literal} {p : Nat} {l : List Value} (b : BackI k q u0 h0 rc cc a u h bv body) (s : Step S0 u h u' h') (hp : h.size ≤ p) (hu : u' p = 0) (hl : l.length ≤ hsz h' p) :
    BackI k q u0 h0 rc cc a u' (hsets h' p 0 l) bv body := by
  have hk := b.hk
  have hq := b.hq
  have hs := b.hs
  exact (b.step0 s).step (Step.sets (S := fun i => i = p) u' h' l rfl (by omega) (by omega)) (fun i e => by
    subst e
    refine ⟨by omega, by omega, by omega, by omega, by omega, fun ho => ?_⟩
    have := b.ho.lt ho
    omega)
theorem GR.any {head : Option Atom} {parts : List (Option Literal)} {j j' : Nat} {body body' : List Literal} (g : GR false head parts j body) : GR false head parts j' body' := ⟨fun h => (by cases h), g.2⟩
theorem testB_isSome {cs : List Const} {vars : List (List UInt8)} {t : Test} : (testB cs vars t).isSome = ((termB cs vars t.2.1).isSome && (termB cs vars t.2.2).isSome) := by
  unfold testB; cases termB cs vars t.2.1 <;> cases termB cs vars t.2.2 <;> rfl
theorem litB_isSome {k : Int} {ps : List Pred} {cs : List Const} {vars : List (List UInt8)} {p : Pattern} : (litB k ps cs vars p).isSome = (atomB ps cs vars p).isSome := by
  unfold litB; simp
theorem BackI.app {k q : Nat} {u0 : U} {h0 : H} {rc cc : List Value} {a : Atom} {u u' : U} {h h' : H} {bv bw : Value} {body : List Literal} {x : Literal} (b : BackI k q u0 h0 rc cc a u h bv body) (s : Step (OwnB bv) u h u' h') (o : Own (q + 1) u' h' bw (body ++ [x])) :
    BackI k q u0 h0 rc cc a u' (hset h' q 3 bw) bw (body ++ [x]) := by
  obtain ⟨av, q1, q2⟩ := b.bq
  have hne : ∀ i, OwnB bv i → q + 1 ≤ i := fun i hi => b.ho.ge hi
  have hq := b.hq
  have hk := b.hk
  have c0 := b.b0.step s (fun h => by have := hne _ h; omega)
  have c1 := b.b1.step s (fun h => by have := hne _ h; omega)
  have c2 := b.b2.step s (fun h => by have := hne _ h; omega)
  have cq := q1.step s (fun h => by have := hne _ h; omega)
  have s4 : Step (fun i => i = q) u' h' u' (hset h' q 3 bw) := Step.set u' h' _ rfl (by rw [cq.2.2.2.1]; exact Nat.zero_le _)
  exact ⟨(b.st.trans s (fun i hi h => by have := hne _ h; omega)).trans s4 (fun i hi e => by omega), c0.step s4 (by omega), c1.step s4 (by omega), c2.step s4 (by omega), ⟨av, cq.set (i := 3) (by simp), (q2.mono s.ge).mono s4.ge⟩,
    o.step s4 (fun i hi e => by have := o.ge hi; omega), hk, hq, by rw [e_ssz]; exact Nat.le_trans b.hs s.ge.sz⟩

def C_back (vs : List Value) (h : H) (K : Value → H → Prop) : Prop :=
  ∃ (u : U) (c0 c1 c2 c3 : Value) (rule : Int) (ps : List Pred) (cs : List Const) (rules : List Rule), vs = [.agg #[c0, c1, c2, c3], .int .i64 rule] ∧ IsSl u h c0 ps ∧ IsSl u h c1 cs ∧ IsSl u h c2 rules ∧ (∀ r ∈ rules, Rep.bulk r ≤ 1048576) ∧
    ∀ u' h' l, Step S0 u h u' h' → Rep.rep u' h' (backB ps cs rules rule).1 l → K (.tuple #[.agg l.toArray, .int .i64 (backB ps cs rules rule).2]) h'
theorem bulk_rule {r : Rule} (h : Rep.bulk r ≤ 1048576) : r.1.2.length ≤ 1048576 ∧ r.2.1.length ≤ 1048576 ∧ r.2.2.1.length ≤ 1048576 ∧ r.2.2.2.1.length ≤ 1048576 ∧ (∀ p ∈ r.2.1, p.2.length ≤ 1048576) ∧ (∀ p ∈ r.2.2.2.1, p.2.length ≤ 1048576) := by
  simp only [bulk_prod, bulk_list] at h
  have h1 := bulkL_pos r.1.2
  have h2 := bulkL_pos r.2.1
  have h3 := bulkL_pos r.2.2.1
  have h4 := bulkL_pos r.2.2.2.1
  refine ⟨by omega, by omega, by omega, by omega, fun p hp => ?_, fun p hp => ?_⟩
  · have := bulkL_mem hp; simp only [bulk_prod, bulk_list] at this; have := bulkL_pos p.2; omega
  · have := bulkL_mem hp; simp only [bulk_prod, bulk_list] at this; have := bulkL_pos p.2; omega
def G_rfBack : Ctr := fun f vs h K _ => (f = 18 ∧ C_rfTermOf vs h K) ∨ (f = 17 ∧ C_rfAtomOf vs h K)
theorem G_rfBack_ok : GOk Try.prog G_rfBack := by
  rintro f vs h K KP (⟨rfl, hC⟩ | ⟨rfl, hC⟩)
  · exact rfTermOf_ok hC
  · exact rfAtomOf_ok hC
theorem rfBack_ok {vs : List Value} {h : H} {K : Value → H → Prop} {KP : List PanicEntry → H → Prop} (hC : C_back vs h K) : HCX Try.prog 6 vs h K KP := by
  obtain ⟨u, c0, c1, c2, c3, rule, ps, cs, rules, rfl, hp, hc, hr, hbk, hK⟩ := hC
  refine rfBack_H G_rfBack G_rfBack_ok _ _ ?_
  obtain ⟨ra, rc, rfl, -, -⟩ := hr.sl
  by_cases hx : 0 ≤ rule ∧ rule < rules.length
  · obtain ⟨n, rfl⟩ := Int.eq_ofNat_of_zero_le hx.1
    obtain ⟨r, hx1, hx2⟩ := at_some hx.1 hx.2
    obtain ⟨b, o, rfl, hb, hu, hz, hrr⟩ := hr.row n r hx2
    obtain ⟨w0, w1, w2, w3, w4, hcells, i0, i1, i2, i3, i4⟩ := (by rw [rep_rule] at hrr; exact hrr)
    simp only [sz_rule, hvs_7, List.cons.injEq, and_true] at hcells hu hz
    obtain ⟨y0, y1, y2, y3, y4, y5, y6⟩ := hcells
    have hlt : n < rules.length := by omega
    obtain ⟨z1, z2, z3, z4, z5, z6⟩ := bulk_rule (hbk r (List.mem_of_getElem? hx2))
    simp only [backB, hx1] at hK
    obtain ⟨a0, n0, rfl, -, -⟩ := i0.sl
    obtain ⟨a1, n1, rfl, -, -⟩ := i1.sl
    obtain ⟨a2, n2, rfl, -, -⟩ := i2.sl
    obtain ⟨a3, n3, rfl, -, -⟩ := i3.sl
    obtain ⟨a4, n4, rfl, -, -⟩ := i4.sl
    simp (disch := first | omega | (simp only [e_ssz, e_psz, e_hszs, List.length_cons, List.length_nil]; try omega; done)) only [↓reduceIte, go_sem, rfBack_S, rfBack_E, Nat.not_le.2 hlt, y0, y1, y2, y3, y4, y5, y6, hlt, hz]
    refine effS_call (.inr ⟨rfl, _, _, _, _, _, _, _, ps, cs, r.2.2.2.2.1, r.1, rfl, hp.mono (Step.ge (S := S0) (by repeat (first | exact Step.refl _ _ _ | assumption | apply Step.pushR))), hc.mono (Step.ge (S := S0) (by repeat (first | exact Step.refl _ _ _ | assumption | apply Step.pushR))), i4.mono (Step.ge (S := S0) (by repeat (first | exact Step.refl _ _ _ | assumption | apply Step.pushR))), i0.mono (Step.ge (S := S0) (by repeat (first | exact Step.refl _ _ _ | assumption | apply Step.pushR))), z1, fun u2 h2 l s2 hl => ⟨by simp (disch := first | omega | (simp only [e_ssz, e_psz, e_hszs, List.length_cons, List.length_nil]; try omega; done)) only [go_sem], ?_⟩⟩)
    rw [rep_atom] at hl
    obtain ⟨hv, rfl, hvs⟩ := hl
    obtain ⟨hva, hvc, rfl, -, -⟩ := hvs.sl
    have s02 : Step S0 u h u2 h2 := Step.trans0 (by repeat (first | exact Step.refl _ _ _ | assumption | apply Step.pushR)) s2
    have B0 : Blk u2 h2 h.size [c0, c1, .slice (some ⟨b, o, none⟩) rules.length rc, c3] := Blk.step0 (Blk.mk (by simp only [e_psz]; omega) (by simp (disch := first | omega | (simp only [e_ssz, e_psz, e_hszs, List.length_cons, List.length_nil]; try omega; done)) only [go_sem]) (by simp (disch := first | omega | (simp only [e_ssz, e_psz, e_hszs, List.length_cons, List.length_nil]; try omega; done)) only [go_sem]) (by repeat (first | (refine ub_at ?_; simp only [e_psz]; done) | apply ub_zero)) (by simp (disch := first | omega | (simp only [e_ssz, e_psz, e_hszs, List.length_cons, List.length_nil]; try omega; done)) only [go_sem])) s2
    have B1 : Blk u2 h2 (h.size + 1) [str [], .slice none 0 0, .int .i64 0, .slice none 0 0] := Blk.step0 (Blk.mk (by simp only [e_psz]; omega) (by simp (disch := first | omega | (simp only [e_ssz, e_psz, e_hszs, List.length_cons, List.length_nil]; try omega; done)) only [go_sem]) (by simp (disch := first | omega | (simp only [e_ssz, e_psz, e_hszs, List.length_cons, List.length_nil]; try omega; done)) only [go_sem]) (by repeat (first | (refine ub_at ?_; simp only [e_psz]; done) | apply ub_zero)) (by simp (disch := first | omega | (simp only [e_ssz, e_psz, e_hszs, List.length_cons, List.length_nil]; try omega; done)) only [go_sem])) s2
    have B2 : Blk u2 h2 (h.size + 1 + 1) [.int .i64 r.1.1, .slice a0 r.1.2.length n0, .slice a1 r.2.1.length n1, .slice a2 r.2.2.1.length n2, .slice a3 r.2.2.2.1.length n3, .slice a4 r.2.2.2.2.1.length n4, .int .i64 r.2.2.2.2.2] := Blk.step0 (Blk.mk (by simp only [e_psz]; omega) (by simp (disch := first | omega | (simp only [e_ssz, e_psz, e_hszs, List.length_cons, List.length_nil]; try omega; done)) only [go_sem]) (by simp (disch := first | omega | (simp only [e_ssz, e_psz, e_hszs, List.length_cons, List.length_nil]; try omega; done)) only [go_sem]) (by repeat (first | (refine ub_at ?_; simp only [e_psz]; done) | apply ub_zero)) (by simp (disch := first | omega | (simp only [e_ssz, e_psz, e_hszs, List.length_cons, List.length_nil]; try omega; done)) only [go_sem])) s2
    have hs2 : h.size + 3 ≤ h2.size := by have := s2.ge.sz; simp only [e_psz] at this; omega
    obtain ⟨hd, hhd⟩ : ∃ hd, hd = (atomB ps cs r.2.2.2.2.1 r.1).getD ([], [], 0) := ⟨_, rfl⟩
    rw [← hhd] at hvs
    simp (disch := first | omega | (simp only [e_ssz, e_psz, e_hszs, List.length_cons, List.length_nil]; try omega; done)) only [↓reduceIte, go_sem, ← hhd]
    obtain ⟨I1, hI1⟩ : ∃ I : (Nat × List Literal × Bool) → Env → H → Prop, I = fun y σ h' => σ 2 = .pointer (some ⟨h.size, 0, none⟩) ∧ σ 4 = .pointer (some ⟨h.size + 1, 0, none⟩) ∧ σ 6 = .pointer (some ⟨h.size + 1 + 1, 0, none⟩) ∧ σ 9 = .pointer (some ⟨h2.size + 1, 0, none⟩) ∧
        σ 8 = .bool y.2.2 ∧ σ 10 = .int .i64 y.1 ∧ y.1 ≤ r.2.1.length ∧ GR y.2.2 (atomB ps cs r.2.2.2.2.1 r.1) (partsB ps cs r) (0 + y.1) y.2.1 ∧ y.2.1.length ≤ 0 + y.1 ∧
        ∃ u' bv, BackI h.size (h2.size + 1) u h [.int .i64 r.1.1, .slice a0 r.1.2.length n0, .slice a1 r.2.1.length n1, .slice a2 r.2.2.1.length n2, .slice a3 r.2.2.2.1.length n3, .slice a4 r.2.2.2.2.1.length n4, .int .i64 r.2.2.2.2.2] [c0, c1, .slice (some ⟨b, o, none⟩) rules.length rc, c3] hd u' h' bv y.2.1 := ⟨_, rfl⟩
    refine wpS_loop I1 (fun y => r.2.1.length - y.1) (0, [], (atomB ps cs r.2.2.2.2.1 r.1).isSome) (by
      rw [hI1]
      refine ⟨by simp [upd], by simp [upd], by simp [upd], by simp [upd], by simp [upd], by simp [upd], Nat.zero_le _, ⟨fun h => ⟨h, rfl⟩, fun h => .inl (by simpa using h)⟩, Nat.le_refl _, _, _, ⟨(by repeat (first | exact Step.refl _ _ _ | assumption | apply Step.pushR)), (by repeat (first | assumption | apply Blk.pushR)), (by repeat (first | assumption | apply Blk.pushR)), (by repeat (first | assumption | apply Blk.pushR)), ⟨.slice hva hd.2.1.length hvc, (Blk.mk (by simp only [e_psz]; omega) (by simp (disch := first | omega | (simp only [e_ssz, e_psz, e_hszs, List.length_cons, List.length_nil]; try omega; done)) only [go_sem]) (by simp (disch := first | omega | (simp only [e_ssz, e_psz, e_hszs, List.length_cons, List.length_nil]; try omega; done)) only [go_sem]) (by repeat (first | (refine ub_at ?_; simp only [e_psz]; done) | apply ub_zero)) (by simp (disch := first | omega | (simp only [e_ssz, e_psz, e_hszs, List.length_cons, List.length_nil]; try omega; done)) only [go_sem])), ?_⟩, .nil _ _ _, Nat.le_refl _, by omega, by simp only [e_psz]; omega⟩⟩
      exact hvs.mono (Step.ge (S := S0) (by repeat (first | exact Step.refl _ _ _ | assumption | apply Step.pushR)))) ?_
    intro ⟨i, body, good⟩ σ h' hy
    rw [hI1] at hy
    obtain ⟨e2, e4, e6, e9, e8, e10, hi, hg, hbl, u', bv, B⟩ := hy
    simp only at e8 e10 hi hg hbl B
    obtain ⟨av, q1, q2⟩ := B.bq
    have hsz' := B.hs
    have hqq := B.hq
    by_cases hcond : i < r.2.1.length ∧ good = true
    · obtain ⟨hlt2, rfl⟩ := hcond
      obtain ⟨p, hs⟩ : ∃ p, r.2.1[i]? = some p := ⟨r.2.1[i], by simp [hlt2]⟩
      obtain ⟨pb, po, rfl, hpb, hpu, hpz, hpr⟩ := (i1.mono B.st.ge).row i p hs
      rw [rep_pattern] at hpr
      obtain ⟨pv, hpr, hpv⟩ := hpr
      obtain ⟨pva, pvc, rfl, -, -⟩ := hpv.sl
      simp only [sz_pattern, hvs_2, List.cons.injEq, and_true] at hpr hpu hpz
      have hz1 : po + i * 2 + 2 ≤ hsz h' pb := by omega
      simp (disch := first | omega | (simp only [e_ssz, e_psz, e_hszs, List.length_cons, List.length_nil]; try omega; done)) only [↓reduceIte, go_sem, rfBack_L1, e2, e6, e8, e10, B.b0.at, B.b2.at, B.b0.2.1, B.b2.2.1, hlt2, hpr.1, hpr.2, hz1]
      refine effS_call (.inr ⟨rfl, _, _, _, _, _, _, _, ps, cs, r.2.2.2.2.1, p, rfl, (hp.mono B.st.ge).mono (Step.ge (S := S0) (by repeat (first | exact Step.refl _ _ _ | assumption | apply Step.pushR))), (hc.mono B.st.ge).mono (Step.ge (S := S0) (by repeat (first | exact Step.refl _ _ _ | assumption | apply Step.pushR))), (i4.mono B.st.ge).mono (Step.ge (S := S0) (by repeat (first | exact Step.refl _ _ _ | assumption | apply Step.pushR))), hpv.mono (Step.ge (S := S0) (by repeat (first | exact Step.refl _ _ _ | assumption | apply Step.pushR))), z5 p (List.mem_of_getElem? hs), fun u3 h3 l s3 hl => ⟨by simp (disch := first | omega | (simp only [e_ssz, e_psz, e_hszs, List.length_cons, List.length_nil]; try omega; done)) only [go_sem], ?_⟩⟩)
      rw [rep_atom] at hl
      obtain ⟨lv, rfl, hlv⟩ := hl
      obtain ⟨lva, lvc, rfl, -, -⟩ := hlv.sl
      have s13 : Step S0 u' h' u3 h3 := Step.trans0 (by repeat (first | exact Step.refl _ _ _ | assumption | apply Step.pushR)) s3
      have bA : Blk u3 h3 h'.size [str [], .slice none 0 0, .int .i64 0] := Blk.step0 (Blk.mk (by simp only [e_psz]; omega) (by simp (disch := first | omega | (simp only [e_ssz, e_psz, e_hszs, List.length_cons, List.length_nil]; try omega; done)) only [go_sem]) (by simp (disch := first | omega | (simp only [e_ssz, e_psz, e_hszs, List.length_cons, List.length_nil]; try omega; done)) only [go_sem]) (by repeat (first | (refine ub_at ?_; simp only []; done) | apply ub_zero)) (by simp (disch := first | omega | (simp only [e_ssz, e_psz, e_hszs, List.length_cons, List.length_nil]; try omega; done)) only [go_sem])) s3
      obtain ⟨d, hd'⟩ : ∃ d, d = (atomB ps cs r.2.2.2.2.1 p).getD ([], [], 0) := ⟨_, rfl⟩
      rw [← hd'] at hlv
      have bA2 := bA.sets (l := [str d.1, .slice lva d.2.1.length lvc, .int .i64 d.2.2]) rfl
      have B3 := B.new (l := [str d.1, .slice lva d.2.1.length lvc, .int .i64 d.2.2]) s13 (Nat.le_refl _) bA.2.2.2.1 (by rw [bA.2.1]; exact Nat.le_refl _)
      have hl3 : IsSl u3 (hsets h3 h'.size 0 [str d.1, .slice lva d.2.1.length lvc, .int .i64 d.2.2]) (.slice lva d.2.1.length lvc) d.2.1 := hlv.mono (Step.sets (S := fun i => i = h'.size) u3 h3 _ rfl (by rw [bA.2.2.2.1]; exact Nat.le_refl _) (by rw [bA.2.1]; exact Nat.le_refl _)).ge
      obtain ⟨av3, q3, -⟩ := B3.bq
      simp (disch := first | omega | (simp only [e_ssz, e_psz, e_hszs, List.length_cons, List.length_nil]; try omega; done)) only [↓reduceIte, go_sem, e9, ← hd', bA.2.1, bA.2.2.1, bA2.at, bA2.2.1, q3.at, q3.2.1]
      refine effS_app1 B3.ho (x := (1, d, 0, (0, 0, [], 0), (0, 0, [], 0), 0)) (by rw [rep_literal]; exact ⟨_, rfl, hl3⟩) rfl rfl B3.hs (by omega) fun a' n' c' u5 h5 ho5 s5 => ⟨by simp (disch := first | omega | (simp only [e_ssz, e_psz, e_hszs, List.length_cons, List.length_nil]; try omega; done)) only [go_sem], ?_⟩
      have B5 := B3.app s5 ho5
      have hne : ¬ OwnB bv (h2.size + 1) := fun hB => by have := B.ho.ge hB; omega
      have q5 := q3.step s5 hne
      simp (disch := first | omega | (simp only [e_ssz, e_psz, e_hszs, List.length_cons, List.length_nil]; try omega; done)) only [↓reduceIte, go_sem, e9, e10, q5.2.1, q5.2.2.1]
      refine ⟨(i + 1, body ++ [(1, d, 0, (0, 0, [], 0), (0, 0, [], 0), 0)], (atomB ps cs r.2.2.2.2.1 p).isSome), ?_, by simp only; omega⟩
      rw [hI1]
      have g := hg.next (d := (1, d, 0, (0, 0, [], 0), (0, 0, [], 0), 0)) (by rw [Nat.zero_add]; exact parts_pos hs) (fun y hy => by
        obtain ⟨a, ha, rfl⟩ := Option.map_eq_some_iff.1 hy
        rw [hd', ha]; rfl)
      rw [litB_isSome] at g
      exact ⟨by simp [upd, e2], by simp [upd, e4], by simp [upd, e6], by simp [upd, e9], by simp [upd], by simp [upd], hlt2, g, by simp only [List.length_append, List.length_singleton]; omega, u5, _, B5⟩
    · simp (disch := first | omega | (simp only [e_ssz, e_psz, e_hszs, List.length_cons, List.length_nil]; try omega; done)) only [↓reduceIte, go_sem, rfBack_L1, e6, e8, e10, B.b2.at, B.b2.2.1, hcond]
      have g2 : GR good (atomB ps cs r.2.2.2.2.1 r.1) (partsB ps cs r) (r.2.1.length + 0) body := by
        cases good with
        | true =>
          have e : i = r.2.1.length := by
            have : ¬ i < r.2.1.length := fun h => hcond ⟨h, rfl⟩
            omega
          rw [e] at hg
          have e2 : 0 + r.2.1.length = r.2.1.length + 0 := by omega
          rw [← e2]; exact hg
        | false => exact GR.any hg
      obtain ⟨I2, hI2⟩ : ∃ I : (Nat × List Literal × Bool) → Env → H → Prop, I = fun y σ h' => σ 2 = .pointer (some ⟨h.size, 0, none⟩) ∧ σ 4 = .pointer (some ⟨h.size + 1, 0, none⟩) ∧ σ 6 = .pointer (some ⟨h.size + 1 + 1, 0, none⟩) ∧ σ 9 = .pointer (some ⟨h2.size + 1, 0, none⟩) ∧
              σ 8 = .bool y.2.2 ∧ σ 12 = .int .i64 y.1 ∧ y.1 ≤ r.2.2.1.length ∧ GR y.2.2 (atomB ps cs r.2.2.2.2.1 r.1) (partsB ps cs r) (r.2.1.length + y.1) y.2.1 ∧ y.2.1.length ≤ r.2.1.length + y.1 ∧
              ∃ u' bv, BackI h.size (h2.size + 1) u h [.int .i64 r.1.1, .slice a0 r.1.2.length n0, .slice a1 r.2.1.length n1, .slice a2 r.2.2.1.length n2, .slice a3 r.2.2.2.1.length n3, .slice a4 r.2.2.2.2.1.length n4, .int .i64 r.2.2.2.2.2] [c0, c1, .slice (some ⟨b, o, none⟩) rules.length rc, c3] hd u' h' bv y.2.1 := ⟨_, rfl⟩
      refine wpS_loop I2 (fun y => r.2.2.1.length - y.1) (0, body, good) (by
        rw [hI2]
        exact ⟨by simp [upd, e2], by simp [upd, e4], by simp [upd, e6], by simp [upd, e9], by simp [upd, e8], by simp [upd], Nat.zero_le _, g2, by simp only; omega, u', bv, B⟩) ?_
      intro ⟨i, body, good⟩ σ h' hy
      rw [hI2] at hy
      obtain ⟨e2, e4, e6, e9, e8, e10, hi, hg, hbl, u', bv, B⟩ := hy
      simp only at e8 e10 hi hg hbl B
      obtain ⟨av, q1, q2⟩ := B.bq
      have hsz' := B.hs
      have hqq := B.hq
      by_cases hcond : i < r.2.2.1.length ∧ good = true
      · obtain ⟨hlt2, rfl⟩ := hcond
        obtain ⟨t, hs⟩ : ∃ t, r.2.2.1[i]? = some t := ⟨r.2.2.1[i], by simp [hlt2]⟩
        obtain ⟨pb, po, rfl, hpb, hpu, hpz, hpr⟩ := (i2.mono B.st.ge).row i t hs
        rw [rep_test] at hpr
        simp only [sz_test] at hpr hpu hpz
        have hpr0 := hpr
        simp only [hvs_5, List.cons.injEq, and_true] at hpr0
        obtain ⟨t0, t1, t2, t3, t4⟩ := hpr0
        have hz1 : po + i * 5 + 5 ≤ hsz h' pb := by omega
        simp (disch := first | omega | (simp only [e_ssz, e_psz, e_hszs, List.length_cons, List.length_nil]; try omega; done)) only [↓reduceIte, go_sem, rfBack_L2, e6, e8, e10, B.b2.at, B.b2.2.1, hlt2]
        refine w_join (fun σ' h3 => keepE σ σ' [2, 4, 6, 9, 12] ∧ ∃ u3 p, Step S0 u' h' u3 h3 ∧ σ' 13 = .pointer (some ⟨p, 0, none⟩) ∧ h'.size ≤ p ∧ Blk u3 h3 p (Term.enc ((termB cs r.2.2.2.2.1 t.2.1).getD (0, 0, [], 0))) ∧ σ' 14 = .bool (termB cs r.2.2.2.2.1 t.2.1).isSome) ?_ ?_
        · simp (disch := first | omega | (simp only [e_ssz, e_psz, e_hszs, List.length_cons, List.length_nil]; try omega; done)) only [↓reduceIte, go_sem, w_both, e2, e4, e6, e9, e10, B.b0.at, B.b2.at, B.b0.2.1, B.b2.2.1, hlt2, t1, t2, show po + i * 5 + 1 + 2 ≤ hsz h' pb by omega]
          refine ⟨effS_call (.inl ⟨rfl, u', _, _, _, _, _, cs, r.2.2.2.2.1, t.2.1, rfl, hc.mono B.st.ge, i4.mono B.st.ge, fun u3 h3 s3 => ?_⟩), ?_⟩
          · simp (disch := first | omega | (simp only [e_ssz, e_psz, e_hszs, List.length_cons, List.length_nil]; try omega; done)) only [↓reduceIte, go_sem, Term.enc, e2, e4, e6, e9, e10]
            have := s3.ge.sz
            exact ⟨_, (by repeat (first | exact Step.refl _ _ _ | assumption | apply Step.pushR)), this, (Blk.mk (by simp only [e_psz]; omega) (by simp (disch := first | omega | (simp only [e_ssz, e_psz, e_hszs, List.length_cons, List.length_nil]; try omega; done)) only [go_sem]) (by simp (disch := first | omega | (simp only [e_ssz, e_psz, e_hszs, List.length_cons, List.length_nil]; try omega; done)) only [go_sem]) (by repeat (first | (refine ub_at ?_; simp only []; done) | apply ub_zero)) (by simp (disch := first | omega | (simp only [e_ssz, e_psz, e_hszs, List.length_cons, List.length_nil]; try omega; done)) only [go_sem]))⟩
          · refine effS_call (.inl ⟨rfl, ub u' h'.size 0, _, _, _, _, _, cs, r.2.2.2.2.1, t.2.1, rfl, (hc.mono B.st.ge).mono (Step.push S0 _ _ _ _ 0).ge, (i4.mono B.st.ge).mono (Step.push S0 _ _ _ _ 0).ge, fun u3 h3 s3 => ?_⟩)
            have b5 : Blk (ub u' h'.size 0) (h'.push (.cells #[.int .i64 0, .int .i64 0, str [], .int .i64 0] 66)) h'.size [.int .i64 0, .int .i64 0, str [], .int .i64 0] := (Blk.mk (by simp only [e_psz]; omega) (by simp (disch := first | omega | (simp only [e_ssz, e_psz, e_hszs, List.length_cons, List.length_nil]; try omega; done)) only [go_sem]) (by simp (disch := first | omega | (simp only [e_ssz, e_psz, e_hszs, List.length_cons, List.length_nil]; try omega; done)) only [go_sem]) (by repeat (first | (refine ub_at ?_; simp only []; done) | apply ub_zero)) (by simp (disch := first | omega | (simp only [e_ssz, e_psz, e_hszs, List.length_cons, List.length_nil]; try omega; done)) only [go_sem]))
            have b6 := b5.step0 s3
            simp (disch := first | omega | (simp only [e_ssz, e_psz, e_hszs, List.length_cons, List.length_nil]; try omega; done)) only [↓reduceIte, go_sem, Term.enc, e2, e4, e6, e9, e10, b6.2.1, b6.2.2.1]
            exact ⟨u3, Step.setsR ((Step.push0 S0 u' h' _ _).trans0 s3) (.inl (Nat.le_refl _)) (by rw [b6.2.2.2.1]; exact Nat.le_refl _) (by rw [b6.2.1]; exact Nat.le_refl _), Nat.le_refl _, b6.sets rfl⟩
        · rintro σ1 h3 ⟨hkE, u3, p, s3, e13, hp', b13, e14⟩
          simp (disch := first | omega | (simp only [e_ssz, e_psz, e_hszs, List.length_cons, List.length_nil]; try omega; done)) only [go_sem, e2, e4, e6, e9, e10] at hkE
          obtain ⟨k2, k4, k6, k9, k10⟩ := hkE
          have B3 := B.step0 s3
          have hpb3 : pb < h3.size := Nat.lt_of_lt_of_le hpb s3.ge.sz
          have hpu3 : po + i * 5 + 5 ≤ u3 pb := Nat.le_trans hpu (s3.ge.up pb hpb)
          have hpr3 := hpr
          rw [← hvs_ge s3.ge hpb hpu] at hpr3
          have hpr0 := hpr3
          simp only [hvs_5, List.cons.injEq, and_true] at hpr0
          obtain ⟨t0, t1, t2, t3, t4⟩ := hpr0
          have hz3 : po + i * 5 + 5 ≤ hsz h3 pb := by rw [(s3.ge.hs pb hpb).1]; exact hz1
          have hsz3 := B3.hs
          simp (disch := first | omega | (simp only [e_ssz, e_psz, e_hszs, List.length_cons, List.length_nil]; try omega; done)) only [go_sem]
          refine w_join (fun σ' h4 => keepE σ1 σ' [2, 4, 6, 9, 12, 13, 14] ∧ ∃ u4 p, Step S0 u3 h3 u4 h4 ∧ σ' 15 = .pointer (some ⟨p, 0, none⟩) ∧ h3.size ≤ p ∧ Blk u4 h4 p (Term.enc ((termB cs r.2.2.2.2.1 t.2.2).getD (0, 0, [], 0))) ∧ σ' 16 = .bool (termB cs r.2.2.2.2.1 t.2.2).isSome) ?_ ?_
          · simp (disch := first | omega | (simp only [e_ssz, e_psz, e_hszs, List.length_cons, List.length_nil]; try omega; done)) only [↓reduceIte, go_sem, w_both, k2, k4, k6, k9, k10, e13, e14, B3.b0.at, B3.b2.at, B3.b0.2.1, B3.b2.2.1, hlt2, t3, t4, show po + i * 5 + 3 + 2 ≤ hsz h3 pb by omega]
            refine ⟨effS_call (.inl ⟨rfl, u3, _, _, _, _, _, cs, r.2.2.2.2.1, t.2.2, rfl, hc.mono B3.st.ge, i4.mono B3.st.ge, fun u4 h4 s4 => ?_⟩), ?_⟩
            · simp (disch := first | omega | (simp only [e_ssz, e_psz, e_hszs, List.length_cons, List.length_nil]; try omega; done)) only [↓reduceIte, go_sem, Term.enc, k2, k4, k6, k9, k10, e13, e14]
              have := s4.ge.sz
              exact ⟨_, (by repeat (first | exact Step.refl _ _ _ | assumption | apply Step.pushR)), this, (Blk.mk (by simp only [e_psz]; omega) (by simp (disch := first | omega | (simp only [e_ssz, e_psz, e_hszs, List.length_cons, List.length_nil]; try omega; done)) only [go_sem]) (by simp (disch := first | omega | (simp only [e_ssz, e_psz, e_hszs, List.length_cons, List.length_nil]; try omega; done)) only [go_sem]) (by repeat (first | (refine ub_at ?_; simp only []; done) | apply ub_zero)) (by simp (disch := first | omega | (simp only [e_ssz, e_psz, e_hszs, List.length_cons, List.length_nil]; try omega; done)) only [go_sem]))⟩
            · refine effS_call (.inl ⟨rfl, ub u3 h3.size 0, _, _, _, _, _, cs, r.2.2.2.2.1, t.2.2, rfl, (hc.mono B3.st.ge).mono (Step.push S0 _ _ _ _ 0).ge, (i4.mono B3.st.ge).mono (Step.push S0 _ _ _ _ 0).ge, fun u4 h4 s4 => ?_⟩)
              have b5 : Blk (ub u3 h3.size 0) (h3.push (.cells #[.int .i64 0, .int .i64 0, str [], .int .i64 0] 66)) h3.size [.int .i64 0, .int .i64 0, str [], .int .i64 0] := (Blk.mk (by simp only [e_psz]; omega) (by simp (disch := first | omega | (simp only [e_ssz, e_psz, e_hszs, List.length_cons, List.length_nil]; try omega; done)) only [go_sem]) (by simp (disch := first | omega | (simp only [e_ssz, e_psz, e_hszs, List.length_cons, List.length_nil]; try omega; done)) only [go_sem]) (by repeat (first | (refine ub_at ?_; simp only []; done) | apply ub_zero)) (by simp (disch := first | omega | (simp only [e_ssz, e_psz, e_hszs, List.length_cons, List.length_nil]; try omega; done)) only [go_sem]))
              have b6 := b5.step0 s4
              simp (disch := first | omega | (simp only [e_ssz, e_psz, e_hszs, List.length_cons, List.length_nil]; try omega; done)) only [↓reduceIte, go_sem, Term.enc, k2, k4, k6, k9, k10, e13, e14, b6.2.1, b6.2.2.1]
              exact ⟨u4, Step.setsR ((Step.push0 S0 u3 h3 _ _).trans0 s4) (.inl (Nat.le_refl _)) (by rw [b6.2.2.2.1]; exact Nat.le_refl _) (by rw [b6.2.1]; exact Nat.le_refl _), Nat.le_refl _, b6.sets rfl⟩
          · rintro σ2 h4 ⟨hkE, u4, p2, s4, e15, hp2, b15, e16⟩
            simp (disch := first | omega | (simp only [e_ssz, e_psz, e_hszs, List.length_cons, List.length_nil]; try omega; done)) only [go_sem, k2, k4, k6, k9, k10, e13, e14] at hkE
            obtain ⟨l2, l4, l6, l9, l10, l13, l14⟩ := hkE
            have B4 := B3.step0 s4
            have b13' := b13.step0 s4
            simp only [Term.enc] at b13' b15
            have hpr4 := hpr3
            rw [← hvs_ge s4.ge hpb3 hpu3] at hpr4
            simp only [hvs_5, List.cons.injEq, and_true] at hpr4
            obtain ⟨t0, t1, t2, t3, t4⟩ := hpr4
            have hz4 : po + i * 5 + 5 ≤ hsz h4 pb := by rw [(s4.ge.hs pb hpb3).1]; exact hz3
            have hpb4 : pb < h4.size := Nat.lt_of_lt_of_le hpb3 s4.ge.sz
            have hsz4 := B4.hs
            obtain ⟨av4, q4, -⟩ := B4.bq
            simp (disch := first | omega | (simp only [e_ssz, e_psz, e_hszs, List.length_cons, List.length_nil]; try omega; done)) only [↓reduceIte, go_sem, l6, l9, l10, l13, l14, e15, e16, B4.b2.at, B4.b2.2.1, hlt2, t0, q4.at, q4.2.1, b13'.at, b13'.2.1, b15.at, b15.2.1, show po + i * 5 < hsz h4 pb by omega]
            refine effS_app1 B4.ho (x := (3, ([], [], 0), t.1, (termB cs r.2.2.2.2.1 t.2.1).getD (0, 0, [], 0), (termB cs r.2.2.2.2.1 t.2.2).getD (0, 0, [], 0), 0)) (by rw [rep_literal]; exact ⟨_, rfl, .nil _ _⟩) rfl rfl B4.hs (by omega) fun a' n' c' u5 h5 ho5 s5 => ⟨by simp (disch := first | omega | (simp only [e_ssz, e_psz, e_hszs, List.length_cons, List.length_nil]; try omega; done)) only [go_sem], ?_⟩
            have B5 := B4.app s5 ho5
            have hne : ¬ OwnB bv (h2.size + 1) := fun hB => by have := B4.ho.ge hB; omega
            have q5 := q4.step s5 hne
            simp (disch := first | omega | (simp only [e_ssz, e_psz, e_hszs, List.length_cons, List.length_nil]; try omega; done)) only [↓reduceIte, go_sem, l9, l10, q5.2.1, q5.2.2.1]
            refine ⟨(i + 1, body ++ [(3, ([], [], 0), t.1, (termB cs r.2.2.2.2.1 t.2.1).getD (0, 0, [], 0), (termB cs r.2.2.2.2.1 t.2.2).getD (0, 0, [], 0), 0)], (termB cs r.2.2.2.2.1 t.2.1).isSome && (termB cs r.2.2.2.2.1 t.2.2).isSome), ?_, by simp only; omega⟩
            rw [hI2]
            have g := hg.next (d := (3, ([], [], 0), t.1, (termB cs r.2.2.2.2.1 t.2.1).getD (0, 0, [], 0), (termB cs r.2.2.2.2.1 t.2.2).getD (0, 0, [], 0), 0)) (parts_test hs) (fun y hy => by
              obtain ⟨xa, hxa, hxb⟩ := Option.bind_eq_some_iff.1 hy
              obtain ⟨xb, hxc, rfl⟩ := Option.map_eq_some_iff.1 hxb
              rw [hxa, hxc]; rfl)
            rw [testB_isSome] at g
            exact ⟨by simp [upd, l2], by simp [upd, l4], by simp [upd, l6], by simp [upd, l9], by simp [upd], by simp [upd], hlt2, g, by simp only [List.length_append, List.length_singleton]; omega, u5, _, B5⟩
      · simp (disch := first | omega | (simp only [e_ssz, e_psz, e_hszs, List.length_cons, List.length_nil]; try omega; done)) only [↓reduceIte, go_sem, rfBack_L2, e6, e8, e10, B.b2.at, B.b2.2.1, hcond]
        have g3 : GR good (atomB ps cs r.2.2.2.2.1 r.1) (partsB ps cs r) (r.2.1.length + r.2.2.1.length + 0) body := by
          cases good with
          | true =>
            have e : i = r.2.2.1.length := by
              have : ¬ i < r.2.2.1.length := fun h => hcond ⟨h, rfl⟩
              omega
            rw [e] at hg
            have e2 : r.2.1.length + r.2.2.1.length = r.2.1.length + r.2.2.1.length + 0 := by omega
            rw [← e2]; exact hg
          | false => exact GR.any hg

        obtain ⟨I3, hI3⟩ : ∃ I : (Nat × List Literal × Bool) → Env → H → Prop, I = fun y σ h' => σ 2 = .pointer (some ⟨h.size, 0, none⟩) ∧ σ 4 = .pointer (some ⟨h.size + 1, 0, none⟩) ∧ σ 6 = .pointer (some ⟨h.size + 1 + 1, 0, none⟩) ∧ σ 9 = .pointer (some ⟨h2.size + 1, 0, none⟩) ∧
                σ 8 = .bool y.2.2 ∧ σ 17 = .int .i64 y.1 ∧ y.1 ≤ r.2.2.2.1.length ∧ GR y.2.2 (atomB ps cs r.2.2.2.2.1 r.1) (partsB ps cs r) (r.2.1.length + r.2.2.1.length + y.1) y.2.1 ∧ y.2.1.length ≤ r.2.1.length + r.2.2.1.length + y.1 ∧
                ∃ u' bv, BackI h.size (h2.size + 1) u h [.int .i64 r.1.1, .slice a0 r.1.2.length n0, .slice a1 r.2.1.length n1, .slice a2 r.2.2.1.length n2, .slice a3 r.2.2.2.1.length n3, .slice a4 r.2.2.2.2.1.length n4, .int .i64 r.2.2.2.2.2] [c0, c1, .slice (some ⟨b, o, none⟩) rules.length rc, c3] hd u' h' bv y.2.1 := ⟨_, rfl⟩
        refine wpS_loop I3 (fun y => r.2.2.2.1.length - y.1) (0, body, good) (by
          rw [hI3]
          exact ⟨by simp [upd, e2], by simp [upd, e4], by simp [upd, e6], by simp [upd, e9], by simp [upd, e8], by simp [upd], Nat.zero_le _, g3, by simp only; omega, u', bv, B⟩) ?_
        intro ⟨i, body, good⟩ σ h' hy
        rw [hI3] at hy
        obtain ⟨e2, e4, e6, e9, e8, e10, hi, hg, hbl, u', bv, B⟩ := hy
        simp only at e8 e10 hi hg hbl B
        obtain ⟨av, q1, q2⟩ := B.bq
        have hsz' := B.hs
        have hqq := B.hq
        by_cases hcond : i < r.2.2.2.1.length ∧ good = true
        · obtain ⟨hlt2, rfl⟩ := hcond
          obtain ⟨p, hs⟩ : ∃ p, r.2.2.2.1[i]? = some p := ⟨r.2.2.2.1[i], by simp [hlt2]⟩
          obtain ⟨pb, po, rfl, hpb, hpu, hpz, hpr⟩ := (i3.mono B.st.ge).row i p hs
          rw [rep_pattern] at hpr
          obtain ⟨pv, hpr, hpv⟩ := hpr
          obtain ⟨pva, pvc, rfl, -, -⟩ := hpv.sl
          simp only [sz_pattern, hvs_2, List.cons.injEq, and_true] at hpr hpu hpz
          have hz1 : po + i * 2 + 2 ≤ hsz h' pb := by omega
          simp (disch := first | omega | (simp only [e_ssz, e_psz, e_hszs, List.length_cons, List.length_nil]; try omega; done)) only [↓reduceIte, go_sem, rfBack_L3, e2, e6, e8, e10, B.b0.at, B.b2.at, B.b0.2.1, B.b2.2.1, hlt2, hpr.1, hpr.2, hz1]
          refine effS_call (.inr ⟨rfl, _, _, _, _, _, _, _, ps, cs, r.2.2.2.2.1, p, rfl, (hp.mono B.st.ge).mono (Step.ge (S := S0) (by repeat (first | exact Step.refl _ _ _ | assumption | apply Step.pushR))), (hc.mono B.st.ge).mono (Step.ge (S := S0) (by repeat (first | exact Step.refl _ _ _ | assumption | apply Step.pushR))), (i4.mono B.st.ge).mono (Step.ge (S := S0) (by repeat (first | exact Step.refl _ _ _ | assumption | apply Step.pushR))), hpv.mono (Step.ge (S := S0) (by repeat (first | exact Step.refl _ _ _ | assumption | apply Step.pushR))), z6 p (List.mem_of_getElem? hs), fun u3 h3 l s3 hl => ⟨by simp (disch := first | omega | (simp only [e_ssz, e_psz, e_hszs, List.length_cons, List.length_nil]; try omega; done)) only [go_sem], ?_⟩⟩)
          rw [rep_atom] at hl
          obtain ⟨lv, rfl, hlv⟩ := hl
          obtain ⟨lva, lvc, rfl, -, -⟩ := hlv.sl
          have s13 : Step S0 u' h' u3 h3 := Step.trans0 (by repeat (first | exact Step.refl _ _ _ | assumption | apply Step.pushR)) s3
          have bA : Blk u3 h3 h'.size [str [], .slice none 0 0, .int .i64 0] := Blk.step0 (Blk.mk (by simp only [e_psz]; omega) (by simp (disch := first | omega | (simp only [e_ssz, e_psz, e_hszs, List.length_cons, List.length_nil]; try omega; done)) only [go_sem]) (by simp (disch := first | omega | (simp only [e_ssz, e_psz, e_hszs, List.length_cons, List.length_nil]; try omega; done)) only [go_sem]) (by repeat (first | (refine ub_at ?_; simp only []; done) | apply ub_zero)) (by simp (disch := first | omega | (simp only [e_ssz, e_psz, e_hszs, List.length_cons, List.length_nil]; try omega; done)) only [go_sem])) s3
          obtain ⟨d, hd'⟩ : ∃ d, d = (atomB ps cs r.2.2.2.2.1 p).getD ([], [], 0) := ⟨_, rfl⟩
          rw [← hd'] at hlv
          have bA2 := bA.sets (l := [str d.1, .slice lva d.2.1.length lvc, .int .i64 d.2.2]) rfl
          have B3 := B.new (l := [str d.1, .slice lva d.2.1.length lvc, .int .i64 d.2.2]) s13 (Nat.le_refl _) bA.2.2.2.1 (by rw [bA.2.1]; exact Nat.le_refl _)
          have hl3 : IsSl u3 (hsets h3 h'.size 0 [str d.1, .slice lva d.2.1.length lvc, .int .i64 d.2.2]) (.slice lva d.2.1.length lvc) d.2.1 := hlv.mono (Step.sets (S := fun i => i = h'.size) u3 h3 _ rfl (by rw [bA.2.2.2.1]; exact Nat.le_refl _) (by rw [bA.2.1]; exact Nat.le_refl _)).ge
          obtain ⟨av3, q3, -⟩ := B3.bq
          simp (disch := first | omega | (simp only [e_ssz, e_psz, e_hszs, List.length_cons, List.length_nil]; try omega; done)) only [↓reduceIte, go_sem, e9, ← hd', bA.2.1, bA.2.2.1, bA2.at, bA2.2.1, q3.at, q3.2.1]
          refine effS_app1 B3.ho (x := (2, d, 0, (0, 0, [], 0), (0, 0, [], 0), 0)) (by rw [rep_literal]; exact ⟨_, rfl, hl3⟩) rfl rfl B3.hs (by omega) fun a' n' c' u5 h5 ho5 s5 => ⟨by simp (disch := first | omega | (simp only [e_ssz, e_psz, e_hszs, List.length_cons, List.length_nil]; try omega; done)) only [go_sem], ?_⟩
          have B5 := B3.app s5 ho5
          have hne : ¬ OwnB bv (h2.size + 1) := fun hB => by have := B.ho.ge hB; omega
          have q5 := q3.step s5 hne
          simp (disch := first | omega | (simp only [e_ssz, e_psz, e_hszs, List.length_cons, List.length_nil]; try omega; done)) only [↓reduceIte, go_sem, e9, e10, q5.2.1, q5.2.2.1]
          refine ⟨(i + 1, body ++ [(2, d, 0, (0, 0, [], 0), (0, 0, [], 0), 0)], (atomB ps cs r.2.2.2.2.1 p).isSome), ?_, by simp only; omega⟩
          rw [hI3]
          have g := hg.next (d := (2, d, 0, (0, 0, [], 0), (0, 0, [], 0), 0)) (parts_neg hs) (fun y hy => by
            obtain ⟨a, ha, rfl⟩ := Option.map_eq_some_iff.1 hy
            rw [hd', ha]; rfl)
          rw [litB_isSome] at g
          exact ⟨by simp [upd, e2], by simp [upd, e4], by simp [upd, e6], by simp [upd, e9], by simp [upd], by simp [upd], hlt2, g, by simp only [List.length_append, List.length_singleton]; omega, u5, _, B5⟩
        · obtain ⟨qa, qc, rfl, -, -⟩ := q2.sl
          obtain ⟨ba, bc, rfl, -, -⟩ := B.ho.sl
          have f1 := B.b1.sets (l := [str [], .slice none 0 0, .int .i64 0, .slice none 0 0]) rfl
          have f2 := B.b1.sets (l := [str hd.1, .slice qa hd.2.1.length qc, .int .i64 hd.2.2, .slice ba body.length bc]) rfl
          simp (disch := first | omega | (simp only [e_ssz, e_psz, e_hszs, List.length_cons, List.length_nil]; try omega; done)) only [↓reduceIte, go_sem, rfBack_L3, e4, e6, e9, e8, e10, B.b2.at, B.b2.2.1, hcond, B.b1.2.1, B.b1.2.2.1, f1.at, f1.2.1, f2.at, f2.2.1, q1.at, q1.2.1]
          have hdn := GR.done (r := r) (fun hgt => by
            have : ¬ i < r.2.2.2.1.length := fun h => hcond ⟨h, hgt⟩
            rw [parts_len]; omega) hg
          rw [hdn] at hK
          refine ⟨fun hgf => ?_, fun hgt => ?_⟩
          · simp only [hgf, Bool.false_eq_true, if_false] at hK
            have s9 : Step (fun i => i = h.size + 1) u' h' u' (hsets h' (h.size + 1) 0 [str [], .slice none 0 0, .int .i64 0, .slice none 0 0]) := Step.sets u' h' _ rfl (by rw [B.b1.2.2.2.1]; exact Nat.zero_le _) (by rw [B.b1.2.1]; exact Nat.le_refl _)
            exact hK _ _ _ (B.st.trans s9 (fun b hb e => by omega)) (by rw [rep_clause]; exact ⟨_, _, rfl, .nil _ _, .nil _ _⟩)
          · simp only [hgt, if_true] at hK
            have s9 : Step (fun i => i = h.size + 1) u' h' u' (hsets h' (h.size + 1) 0 [str hd.1, .slice qa hd.2.1.length qc, .int .i64 hd.2.2, .slice ba body.length bc]) := Step.sets u' h' _ rfl (by rw [B.b1.2.2.2.1]; exact Nat.zero_le _) (by rw [B.b1.2.1]; exact Nat.le_refl _)
            rw [← hhd] at hK
            exact hK _ _ _ (B.st.trans s9 (fun b hb e => by omega)) (by rw [rep_clause]; exact ⟨_, _, rfl, q2.mono s9.ge, B.ho.isSl.mono s9.ge⟩)
  · simp only [backB, at_none (show rule < 0 ∨ (rules.length : Int) ≤ rule by omega)] at hK
    simp (disch := first | omega | (simp only [e_ssz, e_psz, e_hszs, List.length_cons, List.length_nil]; try omega; done)) only [↓reduceIte, go_sem, rfBack_S, rfBack_E, show rule < 0 ∨ (rules.length : Int) ≤ rule by omega]
    exact hK _ _ _ (by repeat (first | exact Step.refl _ _ _ | assumption | apply Step.pushR)) (by rw [rep_clause]; exact ⟨_, _, rfl, .nil _ _, .nil _ _⟩)
end Go.Proofs.Ytjkppoffffjkmaa
