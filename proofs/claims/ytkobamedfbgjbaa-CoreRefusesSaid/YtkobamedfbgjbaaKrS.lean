/- A right program with one clause that may not be is refused: plainly. -/
import Derived.Test.YtkobamedfbgjbaaKrW
namespace Edict
open Go Go.Ev
def z0 : Byts := [122, 48]
def z1 : Byts := [122, 49]
def z6 : Byts := [122, 54]
def varA (s : Byts) (o : Int) : Term := (4, 0, s, o)
def posA (a : Atom) : Literal := (1, a, 0, zterm, zterm, 0)
def negA (a : Atom) : Literal := (2, a, 0, zterm, zterm, 0)
def spQ : Literal := posA (z1, [varA [89] 0], 0)
def spG : Literal := posA (z6, [varA [95] 0, varA [95] 0, varA [95] 0, varA [95] 0, varA [95] 0, varA [95] 0], 0)
def spL (b : Int) : Literal := posA (z6, [varA [95] 0, varA [95] 0, varA [95] 0, varA [95] 0, varA [95] b, varA [95] 0], 0)
def spoilC (w a b : Int) : Clause :=
  if w = 0 then ((z1, [varA [88] a], 0), [spQ])
  else if w = 1 then ((z0, [], 0), [spQ, negA (z1, [varA [95] b], 0)])
  else if w = 2 then ((z0, [], 0), [(3, zatom, 1, varA [89] 0, varA [88] a, 0), spQ])
  else if w = 3 then ((z0, [], 0), [spG, spG, spL b])
  else if w = 4 then ((z0, [], 0), [spQ, negA (z1, [], a)])
  else ((z1, [varA [88] a], 0), [])
def spoilW (w : Int) : Int := if w = 3 then 32 else if w = 4 then 30 else 33
def spoilO (w a b : Int) : Int := if w = 1 ∨ w = 3 then b else a
theorem way_cases {w : Int} (h0 : 0 ≤ w) (h6 : w < 6) : w = 0 ∨ w = 1 ∨ w = 2 ∨ w = 3 ∨ w = 4 ∨ w = 5 := by omega
theorem spoil_w {w a b : Int} (h0 : 0 ≤ w) (h6 : w < 6) : clauseW (spoilC w a b) = 0 := by
  rcases way_cases h0 h6 with rfl | rfl | rfl | rfl | rfl | rfl <;> rfl
theorem spoil_bound {w a b : Int} (h0 : 0 ≤ w) (h6 : w < 6) (h4 : w ≠ 4) : boundC (spoilC w a b) = (spoilW w, 0, spoilO w a b) := by
  rcases way_cases h0 h6 with rfl | rfl | rfl | rfl | rfl | rfl
  · rfl
  · rfl
  · rfl
  · rfl
  · exact absurd rfl h4
  · rfl
theorem atomN_z {a : Atom} (n : Nat) (hn : n ≤ 8) (ha : a.2.1.length = n) (h : a.1 = [122, UInt8.ofNat (48 + n)]) : AtomN a := ⟨122, .inr rfl, by omega, by rw [ha]; exact h⟩
theorem spoil_names {w a b : Int} (h0 : 0 ≤ w) (h6 : w < 6) (h4 : w ≠ 4) : ∀ x ∈ atomsC (spoilC w a b), AtomN x := by
  rcases way_cases h0 h6 with rfl | rfl | rfl | rfl | rfl | rfl
  · intro x hx
    have : atomsC (spoilC 0 a b) = [(z1, [varA [88] a], 0), (z1, [varA [89] 0], 0)] := rfl
    rw [this] at hx
    simp only [List.mem_cons, List.not_mem_nil, or_false] at hx
    rcases hx with rfl | rfl
    · exact atomN_z 1 (by decide) rfl rfl
    · exact atomN_z 1 (by decide) rfl rfl
  · intro x hx
    have : atomsC (spoilC 1 a b) = [(z0, [], 0), (z1, [varA [89] 0], 0), (z1, [varA [95] b], 0)] := rfl
    rw [this] at hx
    simp only [List.mem_cons, List.not_mem_nil, or_false] at hx
    rcases hx with rfl | rfl | rfl
    · exact atomN_z 0 (by decide) rfl rfl
    · exact atomN_z 1 (by decide) rfl rfl
    · exact atomN_z 1 (by decide) rfl rfl
  · intro x hx
    have : atomsC (spoilC 2 a b) = [(z0, [], 0), (z1, [varA [89] 0], 0)] := rfl
    rw [this] at hx
    simp only [List.mem_cons, List.not_mem_nil, or_false] at hx
    rcases hx with rfl | rfl
    · exact atomN_z 0 (by decide) rfl rfl
    · exact atomN_z 1 (by decide) rfl rfl
  · intro x hx
    have : atomsC (spoilC 3 a b) = [(z0, [], 0), spG.2.1, spG.2.1, (spL b).2.1] := rfl
    rw [this] at hx
    simp only [List.mem_cons, List.not_mem_nil, or_false] at hx
    rcases hx with rfl | rfl | rfl | rfl
    · exact atomN_z 0 (by decide) rfl rfl
    · exact atomN_z 6 (by decide) rfl rfl
    · exact atomN_z 6 (by decide) rfl rfl
    · exact atomN_z 6 (by decide) rfl rfl
  · exact absurd rfl h4
  · intro x hx
    have : atomsC (spoilC 5 a b) = [(z1, [varA [88] a], 0)] := rfl
    rw [this] at hx
    simp only [List.mem_cons, List.not_mem_nil, or_false] at hx
    rcases hx with rfl
    exact atomN_z 1 (by decide) rfl rfl
theorem form_ok2 {p : List Clause} (hp : ∀ c ∈ p, clauseW c = 0) (hn : ∀ a ∈ p.flatMap atomsC, AtomN a) (hl : p.length ≤ 201) : formF p [] = (0, 0, 0) := by
  have hw : wellW p = 0 := by unfold wellW; rw [if_neg (by omega)]; exact firstW_zero hp
  have hc := clash_ok (l := p.flatMap atomsC) (ps := []) (by simp) (by simp) hn
  unfold formF
  rw [if_neg (by simp [hw]), if_neg (by simp)]
  simp only [List.find?_nil]
  rw [hc]; rfl
theorem boundF_bad {f : Flt} {c : Clause} (hc : boundC c = f) (hf : f ≠ (0, 0, 0)) : ∀ {l r : List Clause}, (∀ d ∈ l, boundC d = (0, 0, 0)) → boundF (l ++ c :: r) = f
  | [], r, _ => by rw [List.nil_append, boundF, if_neg (by rw [hc]; exact hf), hc]
  | d :: l, r, h => by
    rw [List.cons_append, boundF, if_pos (h d (List.mem_cons_self ..))]
    exact boundF_bad hc hf fun e he => h e (List.mem_cons_of_mem _ he)
theorem clash_pre : ∀ {l r : List Atom} {ps : List Pred}, (∀ x ∈ ps, PredN x) → (ps.map (·.1)).Nodup → (∀ a ∈ l, AtomN a) → clashF ps (l ++ r) = clashF (l.foldl namT ps) r
  | [], _, _, _, _, _ => rfl
  | a :: l, r, ps, h, hn, hl => by
    have ha := hl a (List.mem_cons_self ..)
    obtain ⟨h1, h2⟩ := namT_n h hn ha
    have ih := clash_pre (l := l) (r := r) h1 h2 fun b hb => hl b (List.mem_cons_of_mem _ hb)
    rw [List.foldl_cons, List.cons_append, ← ih]
    conv => lhs; unfold clashF
    cases hr : arOf ps a.1 with
    | some n =>
      have hm := arOf_some hr
      have e := predN_ar (h _ hm) ha rfl
      have hk : namT ps a = ps := by unfold namT; rw [if_pos (List.mem_map.2 ⟨_, hm, rfl⟩)]
      simp only
      rw [if_pos e, hk]
    | none =>
      have hna := arOf_none.1 hr
      have hk : namT ps a = ps ++ [(a.1, (a.2.1.length : Int))] := by unfold namT; rw [if_neg hna]
      have := predN_few h hn
      simp only
      rw [if_neg (by omega), ← hk]
theorem namT_self (ps : List Pred) (a : Atom) : a.1 ∈ (namT ps a).map (·.1) := by
  unfold namT; split
  · assumption
  · simp
theorem namT_keep {ps : List Pred} {s : Byts} (h : s ∈ ps.map (·.1)) (a : Atom) : s ∈ (namT ps a).map (·.1) := by
  unfold namT; split
  · exact h
  · rw [List.map_append]; exact List.mem_append.2 (.inl h)
theorem names_keep : ∀ (l : List Atom) {ps : List Pred} {s : Byts}, s ∈ ps.map (·.1) → s ∈ (l.foldl namT ps).map (·.1)
  | [], _, _, h => h
  | a :: l, _, _, h => names_keep l (namT_keep h a)
theorem names_self : ∀ {l : List Atom} {ps : List Pred} {a : Atom}, a ∈ l → a.1 ∈ (l.foldl namT ps).map (·.1)
  | b :: l, ps, a, h => by
    rw [List.foldl_cons]
    rcases List.mem_cons.1 h with rfl | h
    · exact names_keep l (namT_self _ _)
    · exact names_self h
theorem clash_bad {l r : List Atom} {b : Atom} (hl : ∀ a ∈ l, AtomN a) (hb : ∃ a ∈ l, a.1 = b.1 ∧ a.2.1.length ≠ b.2.1.length) : ∃ ps, clashF [] (l ++ b :: r) = (ps, 30, b.2.2) := by
  obtain ⟨a, ha, he, hne⟩ := hb
  obtain ⟨n1, n2⟩ := names_n (l := l) (ps := []) (by simp) (by simp) hl
  rw [clash_pre (by simp) (by simp) hl, clashF]
  have hm := names_self (ps := []) ha
  rw [he] at hm
  cases hr : arOf (l.foldl namT []) b.1 with
  | none => exact absurd hm (arOf_none.1 hr)
  | some n =>
    have e := predN_ar (n1 _ (arOf_some hr)) (hl a ha) he.symm
    simp only
    rw [if_neg (by simp only at e; omega)]
    exact ⟨_, rfl⟩
theorem build_bad {l r : List Clause} {w a b : Int} (h0 : 0 ≤ w) (h6 : w < 6) (hl : ∀ c ∈ l, ClauseN c) (hr : ∀ c ∈ r, ClauseN c) (hn : l.length + r.length ≤ 200) : buildF (l ++ spoilC w a b :: r) [] = (core0, spoilW w, 0, spoilO w a b) := by
  have hw : ∀ c ∈ l ++ spoilC w a b :: r, clauseW c = 0 := by
    intro c hc
    rcases List.mem_append.1 hc with hc | hc
    · exact (hl c hc).w
    · rcases List.mem_cons.1 hc with rfl | hc
      · exact spoil_w h0 h6
      · exact (hr c hc).w
  have hlen : (l ++ spoilC w a b :: r).length ≤ 201 := by simp only [List.length_append, List.length_cons]; omega
  by_cases h4 : w = 4
  · subst h4
    have hf : formF (l ++ spoilC 4 a b :: r) [] = (30, 0, a) := by
      have hww : wellW (l ++ spoilC 4 a b :: r) = 0 := by unfold wellW; rw [if_neg (by omega)]; exact firstW_zero hw
      have e : (l ++ spoilC 4 a b :: r).flatMap atomsC = (l.flatMap atomsC ++ [(z0, [], 0), (z1, [varA [89] 0], 0)]) ++ (z1, [], a) :: r.flatMap atomsC := by
        rw [List.flatMap_append, List.flatMap_cons]
        have : atomsC (spoilC 4 a b) = [(z0, [], 0), (z1, [varA [89] 0], 0), (z1, [], a)] := rfl
        rw [this]; simp
      obtain ⟨ps, hc⟩ := clash_bad (l := l.flatMap atomsC ++ [(z0, [], 0), (z1, [varA [89] 0], 0)]) (r := r.flatMap atomsC) (b := (z1, [], a)) (fun x hx => by
        rcases List.mem_append.1 hx with hx | hx
        · exact flatN hl x hx
        · simp only [List.mem_cons, List.not_mem_nil, or_false] at hx
          rcases hx with rfl | rfl
          · exact atomN_z 0 (by decide) rfl rfl
          · exact atomN_z 1 (by decide) rfl rfl) ⟨(z1, [varA [89] 0], 0), by simp, rfl, by show (1 : Nat) ≠ 0; decide⟩
      unfold formF
      rw [if_neg (by simp [hww]), if_neg (by simp)]
      simp only [List.find?_nil]
      rw [e, hc]; rfl
    unfold buildF
    rw [if_pos (by rw [hf]; simp), hf]; rfl
  · have hf : formF (l ++ spoilC w a b :: r) [] = (0, 0, 0) := form_ok2 hw (fun x hx => by
      obtain ⟨c, hc, hx⟩ := List.mem_flatMap.1 hx
      rcases List.mem_append.1 hc with hc | hc
      · exact (hl c hc).names x hx
      · rcases List.mem_cons.1 hc with rfl | hc
        · exact spoil_names h0 h6 h4 x hx
        · exact (hr c hc).names x hx) hlen
    have hb := boundF_bad (r := r) (spoil_bound (a := a) (b := b) h0 h6 h4) (by unfold spoilW; rw [if_neg h4]; split <;> simp) fun c hc => (hl c hc).bound
    unfold buildF
    rw [if_neg (by simp [hf]), hb, if_pos]
    unfold spoilW; split <;> simp
theorem preds_some {q : List Clause} (h : q ≠ []) : (psF q []).length ≠ 0 := by
  obtain ⟨c, q, rfl⟩ := List.exists_cons_of_ne_nil h
  have hm := names_self (l := (c :: q).flatMap atomsC) (ps := []) (a := c.1) (by rw [List.flatMap_cons]; exact List.mem_append.2 (.inl (List.mem_cons_self ..)))
  unfold psF
  intro e
  rw [List.foldl_nil, List.length_eq_zero_iff] at e
  rw [e] at hm
  simp at hm
theorem right_built0 (p : List Clause) : buildF (rightF p) [] = (coreF (rightF p) [], 0, 0, 0) :=
  build_ok (right_n p).1 (by have := (right_n p).2; omega) (fun a ha => nomatch ha) (by simp)
theorem wf_varA {s : Byts} {o : Int} (hs : s.length ≤ 1000) (ho : Rep.wf o) : Rep.wf (varA s o) := ⟨w4, w0, wfs (by show s.length ≤ 1000000; omega), ho⟩
theorem wf_zz {s : Byts} {l : List Term} {o : Int} (hs : s.length ≤ 1000) (hl : l.length ≤ 1000) (ht : ∀ t ∈ l, Rep.wf t) (ho : Rep.wf o) : Rep.wf ((s, l, o) : Atom) := ⟨wfs (by show s.length ≤ 1000000; omega), wfl (by show l.length ≤ 1000000; omega) ht, ho⟩
theorem wf_posA {a : Atom} (h : Rep.wf a) : Rep.wf (posA a) := ⟨w1, h, w0, wf_zterm, wf_zterm, w0⟩
theorem wf_negA {a : Atom} (h : Rep.wf a) : Rep.wf (negA a) := ⟨w2, h, w0, wf_zterm, wf_zterm, w0⟩
theorem wf_spQ : Rep.wf spQ := wf_posA (wf_zz (by decide) (by decide) (fun t ht => by rcases List.mem_singleton.1 ht with rfl; exact wf_varA (by decide) w0) w0)
theorem wf_spL {b : Int} (hb : Rep.wf b) : Rep.wf (spL b) := wf_posA (wf_zz (by decide) (by show (6 : Nat) ≤ 1000; decide) (fun t ht => by
  have hz := w0
  simp only [List.mem_cons, List.not_mem_nil, or_false] at ht
  rcases ht with rfl | rfl | rfl | rfl | rfl | rfl <;> exact wf_varA (by decide) (by assumption)) w0)
end Edict
