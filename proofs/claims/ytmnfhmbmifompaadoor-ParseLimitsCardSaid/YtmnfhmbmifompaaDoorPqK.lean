/- Just so many, and one more. -/
import Derived.Test.YtmnfhmbmifompaaDoorPqF
namespace Edict
/-! ### Just so many, and one more -/
/-- The piece l stands at k. -/
def Sta (s : List UInt8) (k : Nat) (l : List UInt8) : Prop := ∃ a b, s = a ++ (l ++ b) ∧ a.length = k
theorem Sta.head {s : List UInt8} {k : Nat} {c : UInt8} {r : List UInt8} (h : Sta s k (c :: r)) : k < s.length ∧ bat s k = c.toNat ∧ Sta s (k + 1) r := by
  obtain ⟨a, b, rfl, rfl⟩ := h
  refine ⟨by simp, ?_, a ++ [c], b, by simp, by simp⟩
  have := bat_appR (s := a) (t := c :: r ++ b) (i := 0)
  rw [Nat.add_zero] at this
  rw [this]; rfl
theorem Sta.app {s : List UInt8} {k : Nat} {l r : List UInt8} (h : Sta s k (l ++ r)) : Sta s (k + l.length) r := by
  obtain ⟨a, b, rfl, rfl⟩ := h
  exact ⟨a ++ l, b, by simp, by simp⟩
/-- The table over what stands from k on. -/
def goF (f st : Int) (c l t : Nat) (s : List UInt8) (k : Nat) : Flt := chkF f ((scanK s k).2.1, ((scanK s k).2.2 : Int)) st c l t (scanK s k).1
theorem flt_go {f : Int} {s : List UInt8} (h : s.length ≤ 65536) : fltF f s = goF f f 0 0 0 s 0 := by unfold fltF goF badF; rw [if_neg (by omega), scanF_is h]
theorem go_on {f st : Int} {c l m : Nat} {s : List UInt8} {k e : Nat} {t : Tok} (hk : k ≤ s.length) (h : nextF s k = .ok t) (h0 : t.1 ≠ 0) (he : t.2.2.2.2.2 = (e : Int)) : goF f st c l m s k = if moveF f st (tK t) = -1 then refuseD t else
      if overF f (tkC st (tK t) c) (tkL st (tK t) l) (tkT st (tK t) m) ≠ 0 then (overF f (tkC st (tK t) c) (tkL st (tK t) l) (tkT st (tK t) m), tO t) else
      goF f (moveF f st (tK t)) (tkC st (tK t) c) (tkL st (tK t) l) (tkT st (tK t) m) s e := by
  unfold goF
  rw [scanK_on hk h h0, he, Int.toNat_natCast, chkF]
theorem go_end {f st : Int} {c l m : Nat} {s : List UInt8} {k : Nat} (hk : k = s.length) (hm : moveF f st 0 = 26) (ho : overF f (tkC st 0 c) (tkL st 0 l) (tkT st 0 m) = 0) : goF f st c l m s k = (0, 0) := by
  have hs : scanK s k = ([endT s.length], 0, 0) := next_fin (by rw [hk]; exact gap_end (Nat.le_refl _))
  unfold goF
  rw [hs]
  simp only
  rw [chkF, if_neg (by show ¬ moveF f st 0 = -1; rw [hm]; decide), if_neg (by show ¬ overF f (tkC st 0 c) (tkL st 0 l) (tkT st 0 m) ≠ 0; rw [ho]; simp)]
  rfl
section
variable {s : List UInt8} {k : Nat}
theorem nx_gap (h : isBl (bat s k) = false ∧ bat s k ≠ 37 ∧ bat s k ≠ 47) : nextF s k = tokF s k := by unfold nextF; rw [gap_at h]; rfl
theorem pr_no {x y : Nat} (h : bat s k ≠ x) : pr s k x y = false := by rw [pr_eq]; simp [h]
theorem nx_sign (hk : k < s.length) {c : Nat} (hc : bat s k = c) (h1 : c = 40 ∨ c = 41 ∨ c = 44 ∨ c = 46 ∨ c = 61) : nextF s k = .ok (if c = 40 then 5 else if c = 41 then 6 else if c = 44 then 7 else if c = 46 then 8 else 11, [], 0, if c = 61 then 1 else 0, (k : Int), ((k + 1 : Nat) : Int)) := by
  rw [nx_gap (by rw [hc]; rcases h1 with rfl | rfl | rfl | rfl | rfl <;> decide)]
  unfold tokF
  rw [if_neg (by omega), hc, if_neg (by rcases h1 with rfl | rfl | rfl | rfl | rfl <;> decide), if_neg (by omega), if_neg (by rcases h1 with rfl | rfl | rfl | rfl | rfl <;> decide), if_neg (by omega)]
  unfold signF
  rw [pr_no (by omega), pr_no (by omega), pr_no (by omega), pr_no (by omega), hc]
  rcases h1 with rfl | rfl | rfl | rfl | rfl <;> rfl
theorem run_one (hk : k < s.length) (hw : wdB (bat s k) = true) (hn : k + 1 < s.length → wdB (bat s (k + 1)) = false) : runF s k = k + 1 := by
  rw [runF_on hk hw, runF_stop]
  rintro ⟨q1, q2⟩
  rw [hn q1] at q2; cases q2
theorem sub_one (hk : k < s.length) : sub s k (k + 1) = [UInt8.ofNat (bat s k)] := by
  unfold sub
  rw [List.drop_take, show k + 1 - k = 1 by omega]
  have : (s.drop k).take 1 = (s.drop k)[0]?.toList := by cases s.drop k <;> rfl
  rw [this, List.getElem?_drop, Nat.add_zero, get_bat hk]
  rfl
/-- The letter p or h, alone. -/
theorem nx_word (hk : k < s.length) {c : Nat} (hc : bat s k = c) (h1 : c = 112 ∨ c = 104) (hn : k + 1 < s.length → wdB (bat s (k + 1)) = false) : nextF s k = .ok (1, [UInt8.ofNat c], 0, 0, (k : Int), ((k + 1 : Nat) : Int)) := by
  rw [nx_gap (by rw [hc]; rcases h1 with rfl | rfl <;> decide)]
  have hr := run_one hk (by rw [hc]; rcases h1 with rfl | rfl <;> decide) hn
  unfold tokF
  rw [if_neg (by omega), hc, if_neg (by rcases h1 with rfl | rfl <;> decide), if_neg (by omega), if_pos (by rcases h1 with rfl | rfl <;> decide)]
  unfold wordF
  rw [hr, sub_one hk, hc, if_neg (by omega), if_neg (by rcases h1 with rfl | rfl <;> decide), if_pos (by rcases h1 with rfl | rfl <;> decide)]
/-- The digit 1, alone. -/
theorem nx_dig (hk : k < s.length) (hc : bat s k = 49) (hn : k + 1 < s.length → wdB (bat s (k + 1)) = false) : nextF s k = .ok (3, [], 1, 0, (k : Int), ((k + 1 : Nat) : Int)) := by
  rw [nx_gap (by rw [hc]; decide)]
  have hr := run_one hk (by rw [hc]; decide) hn
  unfold tokF
  rw [if_neg (by omega), hc, if_pos (by decide)]
  unfold intF allDg
  rw [hr, sub_one hk, hc, if_pos (by decide), if_neg (by omega), if_pos (by decide)]
  rfl
theorem nx_arrow (hk : k + 1 < s.length) (hc : bat s k = 58) (hd : bat s (k + 1) = 45) : nextF s k = .ok (9, [], 0, 0, (k : Int), ((k + 2 : Nat) : Int)) := by
  rw [nx_gap (by rw [hc]; decide)]
  unfold tokF
  rw [if_neg (by omega), hc, if_neg (by decide), if_neg (by omega), if_neg (by decide), if_neg (by decide)]
  unfold signF
  rw [if_pos (by rw [pr_eq, hc, hd]; simp; omega)]
  rfl
end
theorem cap_of {f : Int} {c : Nat} (hf : f = 0 ∨ f = 15) : capC f c = decide (capM f < c) := by
  unfold capC capM
  rcases hf with rfl | rfl <;> simp
theorem over_of {f : Int} {c l t : Nat} (h1 : capC f c = false) (h2 : l ≤ 16) (h3 : t ≤ 8) : overF f c l t = 0 := over_ok h1 h2 h3
/-- n facts. -/
theorem go_facts {f : Int} (hf : f = 0 ∨ f = 15) {s : List UInt8} : ∀ (n c k : Nat) (r : List UInt8), Sta s k (repF [112, 46] n ++ r) → c ≤ capM f → goF f f c 0 0 s k = if c + n ≤ capM f then goF f f (c + n) 0 0 s (k + 2 * n) else (24, ((k + 2 * (capM f - c) : Nat) : Int))
  | 0, c, k, r, _, hc => by rw [if_pos (by omega)]; rfl
  | n + 1, c, k, r, h, hc => by
    rw [repF, List.append_assoc] at h
    obtain ⟨a1, a2, h1⟩ := Sta.head h
    obtain ⟨b1, b2, h2⟩ := Sta.head h1
    have a2' : bat s k = 112 := a2
    have b2' : bat s (k + 1) = 46 := b2
    rw [go_on (Nat.le_of_lt a1) (nx_word a1 a2' (.inl rfl) (fun _ => by rw [b2']; decide)) (by simp) rfl]
    have m1 : moveF f f 1 = f + 1 := by rcases hf with rfl | rfl <;> decide
    have m2 : moveF f (f + 1) 8 = f := by rcases hf with rfl | rfl <;> decide
    have c1 : tkC f 1 c = c + 1 := by unfold tkC; rw [if_pos (by omega)]
    have l1 : tkL f 1 0 = 0 := by unfold tkL; rw [if_neg (by decide), if_neg (by omega)]
    have t1 : tkT f 1 0 = 0 := by unfold tkT; rw [if_neg (by decide), if_neg (by omega)]
    have c2 : tkC (f + 1) 8 (c + 1) = c + 1 := by unfold tkC; rw [if_neg (by omega)]
    have l2 : tkL (f + 1) 8 0 = 0 := by unfold tkL; rw [if_neg (by decide), if_neg (by omega)]
    have t2 : tkT (f + 1) 8 0 = 0 := by unfold tkT; rw [if_neg (by decide), if_neg (by omega)]
    show (if moveF f f 1 = -1 then _ else if overF f (tkC f 1 c) (tkL f 1 0) (tkT f 1 0) ≠ 0 then (overF f (tkC f 1 c) (tkL f 1 0) (tkT f 1 0), (k : Int)) else goF f (moveF f f 1) (tkC f 1 c) (tkL f 1 0) (tkT f 1 0) s (k + 1)) = _
    rw [m1, c1, l1, t1, if_neg (by omega)]
    by_cases hlt : c + 1 ≤ capM f
    · have ho : overF f (c + 1) 0 0 = 0 := over_ok (by rw [cap_of hf]; simp; omega) (by omega) (by omega)
      rw [ho, if_neg (by simp), go_on (Nat.le_of_lt b1) (nx_sign b1 b2' (by omega)) (by simp) rfl]
      show (if moveF f (f + 1) 8 = -1 then _ else if overF f (tkC (f + 1) 8 (c + 1)) (tkL (f + 1) 8 0) (tkT (f + 1) 8 0) ≠ 0 then _ else goF f (moveF f (f + 1) 8) (tkC (f + 1) 8 (c + 1)) (tkL (f + 1) 8 0) (tkT (f + 1) 8 0) s (k + 1 + 1)) = _
      rw [m2, c2, l2, t2, ho, if_neg (by omega), if_neg (by simp), go_facts hf n (c + 1) (k + 1 + 1) r h2 hlt]
      simp only [show c + 1 + n = c + (n + 1) by omega, show k + 1 + 1 + 2 * n = k + 2 * (n + 1) by omega]
      split
      · rfl
      · rw [show k + 1 + 1 + 2 * (capM f - (c + 1)) = k + 2 * (capM f - c) by omega]
    · have hcap : capC f (c + 1) = true := by rw [cap_of hf]; simp; omega
      have ho : overF f (c + 1) 0 0 = 24 := by unfold overF; rw [if_pos hcap]
      rw [ho, if_pos (by decide), if_neg (by omega), show k + 2 * (capM f - c) = k by omega]
/-- n comparisons. -/
theorem go_tests {f : Int} (hf : f = 0 ∨ f = 5) {c : Nat} (hc : capC f c = false) {s : List UInt8} : ∀ (n l k : Nat) (r : List UInt8), Sta s k (repF [49, 61, 49, 44] n ++ r) → l ≤ 16 → goF f 5 c l 0 s k = if l + n ≤ 16 then goF f 5 c (l + n) 0 s (k + 4 * n) else (23, ((k + 4 * (16 - l) : Nat) : Int))
  | 0, l, k, r, _, hl => by rw [if_pos (by omega)]; rfl
  | n + 1, l, k, r, h, hl => by
    rw [repF, List.append_assoc] at h
    obtain ⟨a1, a2, h1⟩ := Sta.head h
    obtain ⟨b1, b2, h2⟩ := Sta.head h1
    obtain ⟨d1, d2, h3⟩ := Sta.head h2
    obtain ⟨e1, e2, h4⟩ := Sta.head h3
    have a2' : bat s k = 49 := a2
    have b2' : bat s (k + 1) = 61 := b2
    have d2' : bat s (k + 1 + 1) = 49 := d2
    have e2' : bat s (k + 1 + 1 + 1) = 44 := e2
    rw [go_on (Nat.le_of_lt a1) (nx_dig a1 a2' (fun _ => by rw [b2']; decide)) (by simp) rfl]
    show (if moveF f 5 3 = -1 then _ else if overF f c (l + 1) 0 ≠ 0 then (overF f c (l + 1) 0, (k : Int)) else goF f (moveF f 5 3) c (l + 1) 0 s (k + 1)) = _
    have m1 : moveF f 5 3 = 8 := by rcases hf with rfl | rfl <;> decide
    have m2 : moveF f 8 11 = 11 := by rcases hf with rfl | rfl <;> decide
    have m3 : moveF f 11 3 = 14 := by rcases hf with rfl | rfl <;> decide
    have m4 : moveF f 14 7 = 5 := by rcases hf with rfl | rfl <;> decide
    rw [m1, if_neg (by decide)]
    by_cases hlt : l + 1 ≤ 16
    · have ho : overF f c (l + 1) 0 = 0 := over_ok hc hlt (by omega)
      rw [ho, if_neg (by simp), go_on (Nat.le_of_lt b1) (nx_sign b1 b2' (by omega)) (by simp) rfl]
      show (if moveF f 8 11 = -1 then _ else if overF f c (l + 1) 0 ≠ 0 then _ else goF f (moveF f 8 11) c (l + 1) 0 s (k + 1 + 1)) = _
      rw [m2, ho, if_neg (by decide), if_neg (by simp), go_on (Nat.le_of_lt d1) (nx_dig d1 d2' (fun _ => by rw [e2']; decide)) (by simp) rfl]
      show (if moveF f 11 3 = -1 then _ else if overF f c (l + 1) 0 ≠ 0 then _ else goF f (moveF f 11 3) c (l + 1) 0 s (k + 1 + 1 + 1)) = _
      rw [m3, ho, if_neg (by decide), if_neg (by simp), go_on (Nat.le_of_lt e1) (nx_sign e1 e2' (by omega)) (by simp) rfl]
      show (if moveF f 14 7 = -1 then _ else if overF f c (l + 1) 0 ≠ 0 then _ else goF f (moveF f 14 7) c (l + 1) 0 s (k + 1 + 1 + 1 + 1)) = _
      rw [m4, ho, if_neg (by decide), if_neg (by simp), go_tests hf hc n (l + 1) (k + 1 + 1 + 1 + 1) r h4 hlt]
      simp only [show l + 1 + n = l + (n + 1) by omega, show k + 1 + 1 + 1 + 1 + 4 * n = k + 4 * (n + 1) by omega]
      split
      · rfl
      · rw [show k + 1 + 1 + 1 + 1 + 4 * (16 - (l + 1)) = k + 4 * (16 - l) by omega]
    · have ho : overF f c (l + 1) 0 = 23 := by unfold overF; rw [hc, if_neg (by decide), if_pos (by omega)]
      rw [ho, if_pos (by decide), if_neg (by omega), show k + 4 * (16 - l) = k by omega]
/-- n terms of an atom. -/
theorem go_terms {f st : Int} (hf : f = 0 ∧ st = 2 ∨ f = 20 ∧ st = 22) {c : Nat} (hc : capC f c = false) {s : List UInt8} : ∀ (n t k : Nat) (r : List UInt8), Sta s k (repF [49, 44] n ++ r) → t ≤ 8 → goF f st c 0 t s k = if t + n ≤ 8 then goF f st c 0 (t + n) s (k + 2 * n) else (22, ((k + 2 * (8 - t) : Nat) : Int))
  | 0, t, k, r, _, ht => by rw [if_pos (by omega)]; rfl
  | n + 1, t, k, r, h, ht => by
    rw [repF, List.append_assoc] at h
    obtain ⟨a1, a2, h1⟩ := Sta.head h
    obtain ⟨b1, b2, h2⟩ := Sta.head h1
    have a2' : bat s k = 49 := a2
    have b2' : bat s (k + 1) = 44 := b2
    rw [go_on (Nat.le_of_lt a1) (nx_dig a1 a2' (fun _ => by rw [b2']; decide)) (by simp) rfl]
    have m1 : moveF f st 3 = st + 1 := by rcases hf with ⟨rfl, rfl⟩ | ⟨rfl, rfl⟩ <;> decide
    have m2 : moveF f (st + 1) 7 = st := by rcases hf with ⟨rfl, rfl⟩ | ⟨rfl, rfl⟩ <;> decide
    have c1 : tkC st 3 c = c := by unfold tkC; rw [if_neg (by omega)]
    have l1 : tkL st 3 0 = 0 := by unfold tkL; rw [if_neg (by decide), if_neg (by omega)]
    have t1 : tkT st 3 t = t + 1 := by unfold tkT; rw [if_neg (by decide), if_pos (by omega)]
    have c2 : tkC (st + 1) 7 c = c := by unfold tkC; rw [if_neg (by omega)]
    have l2 : tkL (st + 1) 7 0 = 0 := by unfold tkL; rw [if_neg (by decide), if_neg (by omega)]
    have t2 : tkT (st + 1) 7 (t + 1) = t + 1 := by unfold tkT; rw [if_neg (by decide), if_neg (by omega)]
    show (if moveF f st 3 = -1 then _ else if overF f (tkC st 3 c) (tkL st 3 0) (tkT st 3 t) ≠ 0 then (overF f (tkC st 3 c) (tkL st 3 0) (tkT st 3 t), (k : Int)) else goF f (moveF f st 3) (tkC st 3 c) (tkL st 3 0) (tkT st 3 t) s (k + 1)) = _
    rw [m1, c1, l1, t1, if_neg (by omega)]
    by_cases hlt : t + 1 ≤ 8
    · have ho : overF f c 0 (t + 1) = 0 := over_ok hc (by omega) hlt
      rw [ho, if_neg (by simp), go_on (Nat.le_of_lt b1) (nx_sign b1 b2' (by omega)) (by simp) rfl]
      show (if moveF f (st + 1) 7 = -1 then _ else if overF f (tkC (st + 1) 7 c) (tkL (st + 1) 7 0) (tkT (st + 1) 7 (t + 1)) ≠ 0 then _ else goF f (moveF f (st + 1) 7) (tkC (st + 1) 7 c) (tkL (st + 1) 7 0) (tkT (st + 1) 7 (t + 1)) s (k + 1 + 1)) = _
      rw [m2, c2, l2, t2, ho, if_neg (by omega), if_neg (by simp), go_terms hf hc n (t + 1) (k + 1 + 1) r h2 hlt]
      simp only [show t + 1 + n = t + (n + 1) by omega, show k + 1 + 1 + 2 * n = k + 2 * (n + 1) by omega]
      split
      · rfl
      · rw [show k + 1 + 1 + 2 * (8 - (t + 1)) = k + 2 * (8 - t) by omega]
    · have ho : overF f c 0 (t + 1) = 22 := by unfold overF; rw [hc, if_neg (by decide), if_neg (by decide), if_pos (by omega)]
      rw [ho, if_pos (by decide), if_neg (by omega), show k + 2 * (8 - t) = k by omega]
theorem Sta.all (s : List UInt8) : Sta s 0 s := ⟨[], [], by simp, rfl⟩
theorem move_6 {f : Int} (hf : f = 0 ∨ f = 15) : moveF f f 6 = -1 := by rcases hf with rfl | rfl <;> decide
theorem move_end {f : Int} (hf : f = 0 ∨ f = 15) : moveF f f 0 = 26 := by rcases hf with rfl | rfl <;> decide
/-- P3.2: so many clauses, facts. -/
theorem lim_facts {f : Int} (hf : f = 0 ∨ f = 15) {n : Nat} (hn : 1 ≤ n) (hb : n ≤ 5000) (bad : Bool) : fltF f (repF [112, 46] (n - 1) ++ (if bad = true then [41, 46] else [112, 46])) = if capM f < n ∧ (bad = false ∨ capM f + 1 < n) then (24, ((2 * capM f : Nat) : Int)) else if bad = true then (20, ((2 * (n - 1) : Nat) : Int)) else (0, 0) := by
  cases bad with
  | false =>
    have e : repF [112, 46] (n - 1) ++ [112, 46] = repF [112, 46] n := by
      have := repF_add [112, 46] (n - 1) 1
      rw [show n - 1 + 1 = n by omega] at this
      rw [this]; rfl
    simp only [Bool.false_eq_true, if_false, true_or, and_true]
    rw [e]
    have hl : (repF [112, 46] n).length = 2 * n := repF_len _ n
    rw [flt_go (by omega), go_facts hf n 0 0 [] (by rw [List.append_nil]; exact Sta.all _) (Nat.zero_le _)]
    by_cases h : capM f < n
    · rw [if_pos h, if_neg (by omega)]
      simp
    · rw [if_neg h, if_pos (by omega)]
      exact go_end (by omega) (move_end hf) (by
        have c1 : tkC f 0 (0 + n) = n := by unfold tkC; rw [if_neg (by omega)]; omega
        have l1 : tkL f 0 0 = 0 := by unfold tkL; rw [if_neg (by decide), if_neg (by omega)]
        have t1 : tkT f 0 0 = 0 := by unfold tkT; rw [if_neg (by decide), if_neg (by omega)]
        rw [c1, l1, t1]
        exact over_ok (by rw [cap_of hf]; simp; omega) (by omega) (by omega))
  | true =>
    simp only [if_true, Bool.true_eq_false, false_or]
    have hl : (repF [112, 46] (n - 1) ++ [41, 46]).length = 2 * n := by rw [List.length_append, repF_len]; simp; omega
    have hst : Sta (repF [112, 46] (n - 1) ++ [41, 46]) 0 (repF [112, 46] (n - 1) ++ [41, 46]) := Sta.all _
    rw [flt_go (by omega), go_facts hf (n - 1) 0 0 [41, 46] hst (Nat.zero_le _)]
    by_cases h : capM f + 1 < n
    · rw [if_neg (by omega), if_pos ⟨by omega, h⟩]
      simp
    · rw [if_pos (by omega), if_neg (by omega)]
      have h2 := hst.app
      rw [repF_len] at h2
      obtain ⟨a1, a2, -⟩ := h2.head
      simp only [List.length_cons, List.length_nil, Nat.zero_add, Nat.reduceAdd] at a1 a2
      have a2' : bat (repF [112, 46] (n - 1) ++ [41, 46]) (0 + 2 * (n - 1)) = 41 := by rw [Nat.zero_add]; exact a2
      rw [go_on (e := 0 + 2 * (n - 1) + 1) (by omega) (nx_sign (by omega) a2' (by omega)) (by simp) rfl]
      show (if moveF f f 6 = -1 then (if (6 : Int) = 0 then (21 : Int) else 20, ((0 + 2 * (n - 1) : Nat) : Int)) else _) = _
      rw [move_6 hf, if_pos rfl, if_neg (by decide), Nat.zero_add]
/-- P3.2: so many literals. -/
theorem lim_tests {f : Int} (hf : f = 0 ∨ f = 5) {c : Nat} (hc : capC f c = false) {s : List UInt8} {k n : Nat} (hn : 1 ≤ n) (bad : Bool) (h : Sta s k (repF [49, 61, 49, 44] (n - 1) ++ ((if bad = true then [41] else [49]) ++ [61, 49, 46]))) (he : k + 4 * n = s.length) :
    goF f 5 c 0 0 s k = if 16 < n ∧ (bad = false ∨ 17 < n) then (23, ((k + 64 : Nat) : Int)) else if bad = true then (20, ((k + 4 * (n - 1) : Nat) : Int)) else (0, 0) := by
  rw [go_tests hf hc (n - 1) 0 k _ h (by omega)]
  have h2 := h.app
  rw [repF_len] at h2
  simp only [List.length_cons, List.length_nil, Nat.zero_add, Nat.reduceAdd] at h2
  by_cases h17 : 17 < n
  · rw [if_neg (by omega), if_pos ⟨by omega, .inr h17⟩]
  rw [if_pos (by omega)]
  cases bad with
  | true =>
    rw [if_neg (by simp; omega), if_pos rfl]
    obtain ⟨a1, a2, -⟩ := h2.head
    have a2' : bat s (k + 4 * (n - 1)) = 41 := a2
    rw [go_on (e := k + 4 * (n - 1) + 1) (by omega) (nx_sign (by omega) a2' (by omega)) (by simp) rfl]
    show (if moveF f 5 6 = -1 then (if (6 : Int) = 0 then (21 : Int) else 20, ((k + 4 * (n - 1) : Nat) : Int)) else _) = _
    rw [if_pos (by rcases hf with rfl | rfl <;> decide), if_neg (by decide)]
  | false =>
    obtain ⟨a1, a2, h3⟩ := h2.head
    obtain ⟨b1, b2, h4⟩ := h3.head
    obtain ⟨d1, d2, h5⟩ := h4.head
    obtain ⟨e1, e2, -⟩ := h5.head
    obtain ⟨K, hK⟩ : ∃ K, K = k + 4 * (n - 1) := ⟨_, rfl⟩
    rw [← hK] at a1 a2 b1 b2 d1 d2 e1 e2 ⊢
    have a2' : bat s K = 49 := a2
    have b2' : bat s (K + 1) = 61 := b2
    have d2' : bat s (K + 1 + 1) = 49 := d2
    have e2' : bat s (K + 1 + 1 + 1) = 46 := e2
    have m1 : moveF f 5 3 = 8 := by rcases hf with rfl | rfl <;> decide
    have m2 : moveF f 8 11 = 11 := by rcases hf with rfl | rfl <;> decide
    have m3 : moveF f 11 3 = 14 := by rcases hf with rfl | rfl <;> decide
    have m4 : moveF f 14 8 = behF f := by rcases hf with rfl | rfl <;> decide
    have m5 : moveF f (behF f) 0 = 26 := by rcases hf with rfl | rfl <;> decide
    have hb : behF f = 25 ∨ behF f = 0 := by rcases hf with rfl | rfl <;> decide
    rw [go_on (Nat.le_of_lt a1) (nx_dig a1 a2' (fun _ => by rw [b2']; decide)) (by simp) rfl]
    show (if moveF f 5 3 = -1 then _ else if overF f c (0 + (n - 1) + 1) 0 ≠ 0 then (overF f c (0 + (n - 1) + 1) 0, (K : Int)) else goF f (moveF f 5 3) c (0 + (n - 1) + 1) 0 s (K + 1)) = _
    rw [m1, if_neg (by decide), show 0 + (n - 1) + 1 = n by omega]
    by_cases h16 : 16 < n
    · have ho : overF f c n 0 = 23 := by unfold overF; rw [hc, if_neg (by decide), if_pos h16]
      rw [ho, if_pos (by decide), if_pos ⟨h16, .inl rfl⟩, show K = k + 64 by omega]
    · have ho : overF f c n 0 = 0 := over_ok hc (by omega) (by omega)
      rw [ho, if_neg (by simp), if_neg (fun q => h16 q.1), if_neg (by decide), go_on (Nat.le_of_lt b1) (nx_sign b1 b2' (by omega)) (by simp) rfl]
      show (if moveF f 8 11 = -1 then _ else if overF f c n 0 ≠ 0 then _ else goF f (moveF f 8 11) c n 0 s (K + 1 + 1)) = _
      rw [m2, ho, if_neg (by decide), if_neg (by simp), go_on (Nat.le_of_lt d1) (nx_dig d1 d2' (fun _ => by rw [e2']; decide)) (by simp) rfl]
      show (if moveF f 11 3 = -1 then _ else if overF f c n 0 ≠ 0 then _ else goF f (moveF f 11 3) c n 0 s (K + 1 + 1 + 1)) = _
      rw [m3, ho, if_neg (by decide), if_neg (by simp), go_on (Nat.le_of_lt e1) (nx_sign e1 e2' (by omega)) (by simp) rfl]
      show (if moveF f 14 8 = -1 then _ else if overF f c n 0 ≠ 0 then _ else goF f (moveF f 14 8) c n 0 s (K + 1 + 1 + 1 + 1)) = _
      rw [m4, ho, if_neg (by omega), if_neg (by simp)]
      refine go_end (by omega) m5 ?_
      have c1 : tkC (behF f) 0 c = c := by unfold tkC; rw [if_neg (by omega)]
      have l1 : tkL (behF f) 0 n = n := by unfold tkL; rw [if_neg (by decide), if_neg (by omega)]
      have t1 : tkT (behF f) 0 0 = 0 := by unfold tkT; rw [if_neg (by decide), if_neg (by omega)]
      rw [c1, l1, t1]; exact ho
/-- P3.2: so many terms. -/
theorem lim_terms {f st : Int} (hf : f = 0 ∧ st = 2 ∨ f = 20 ∧ st = 22) {c : Nat} (hc : capC f c = false) {s : List UInt8} {k n : Nat} (hn : 1 ≤ n) (bad : Bool) (h : Sta s k (repF [49, 44] (n - 1) ++ ((if bad = true then [41] else [49]) ++ (if f = 0 then [41, 46] else [41])))) (he : k + 2 * n + (if f = 0 then 1 else 0) = s.length) :
    goF f st c 0 0 s k = if 8 < n ∧ (bad = false ∨ 9 < n) then (22, ((k + 16 : Nat) : Int)) else if bad = true then (20, ((k + 2 * (n - 1) : Nat) : Int)) else (0, 0) := by
  rw [go_terms hf hc (n - 1) 0 k _ h (by omega)]
  have h2 := h.app
  rw [repF_len] at h2
  simp only [List.length_cons, List.length_nil, Nat.zero_add, Nat.reduceAdd] at h2
  by_cases h9 : 9 < n
  · rw [if_neg (by omega), if_pos ⟨by omega, .inr h9⟩]
  rw [if_pos (by omega)]
  obtain ⟨K, hK⟩ : ∃ K, K = k + 2 * (n - 1) := ⟨_, rfl⟩
  cases bad with
  | true =>
    rw [if_neg (by simp; omega), if_pos rfl]
    obtain ⟨a1, a2, -⟩ := h2.head
    have a2' : bat s (k + 2 * (n - 1)) = 41 := a2
    rw [go_on (e := k + 2 * (n - 1) + 1) (Nat.le_of_lt a1) (nx_sign a1 a2' (by omega)) (by simp) rfl]
    show (if moveF f st 6 = -1 then (if (6 : Int) = 0 then (21 : Int) else 20, ((k + 2 * (n - 1) : Nat) : Int)) else _) = _
    rw [if_pos (by rcases hf with ⟨rfl, rfl⟩ | ⟨rfl, rfl⟩ <;> decide), if_neg (by decide)]
  | false =>
    obtain ⟨a1, a2, h3⟩ := h2.head
    have h3' : Sta s (k + 2 * (n - 1) + 1) (41 :: (if f = 0 then [46] else [])) := by
      rcases hf with ⟨rfl, rfl⟩ | ⟨rfl, rfl⟩ <;> exact h3
    obtain ⟨b1, b2, h4⟩ := h3'.head
    rw [← hK] at a1 a2 b1 b2 h4 ⊢
    have a2' : bat s K = 49 := a2
    have b2' : bat s (K + 1) = 41 := b2
    have m1 : moveF f st 3 = st + 1 := by rcases hf with ⟨rfl, rfl⟩ | ⟨rfl, rfl⟩ <;> decide
    have m2 : moveF f (st + 1) 6 = st + 2 := by rcases hf with ⟨rfl, rfl⟩ | ⟨rfl, rfl⟩ <;> decide
    have c1 : tkC st 3 c = c := by unfold tkC; rw [if_neg (by omega)]
    have l1 : tkL st 3 0 = 0 := by unfold tkL; rw [if_neg (by decide), if_neg (by omega)]
    have t1 : tkT st 3 (0 + (n - 1)) = n := by unfold tkT; rw [if_neg (by decide), if_pos (by omega)]; omega
    have c2 : tkC (st + 1) 6 c = c := by unfold tkC; rw [if_neg (by omega)]
    have l2 : tkL (st + 1) 6 0 = 0 := by unfold tkL; rw [if_neg (by decide), if_neg (by omega)]
    have t2 : tkT (st + 1) 6 n = n := by unfold tkT; rw [if_neg (by decide), if_neg (by omega)]
    rw [go_on (Nat.le_of_lt a1) (nx_dig a1 a2' (fun _ => by rw [b2']; decide)) (by simp) rfl]
    show (if moveF f st 3 = -1 then _ else if overF f (tkC st 3 c) (tkL st 3 0) (tkT st 3 (0 + (n - 1))) ≠ 0 then (overF f (tkC st 3 c) (tkL st 3 0) (tkT st 3 (0 + (n - 1))), (K : Int)) else goF f (moveF f st 3) (tkC st 3 c) (tkL st 3 0) (tkT st 3 (0 + (n - 1))) s (K + 1)) = _
    rw [m1, c1, l1, t1, if_neg (by omega)]
    by_cases h8 : 8 < n
    · have ho : overF f c 0 n = 22 := by unfold overF; rw [hc, if_neg (by decide), if_neg (by decide), if_pos h8]
      rw [ho, if_pos (by decide), if_pos ⟨h8, .inl rfl⟩, show K = k + 16 by omega]
    · have ho : overF f c 0 n = 0 := over_ok hc (by omega) (by omega)
      rw [ho, if_neg (by simp), if_neg (fun q => h8 q.1), if_neg (by decide), go_on (Nat.le_of_lt b1) (nx_sign b1 b2' (by omega)) (by simp) rfl]
      show (if moveF f (st + 1) 6 = -1 then _ else if overF f (tkC (st + 1) 6 c) (tkL (st + 1) 6 0) (tkT (st + 1) 6 n) ≠ 0 then _ else goF f (moveF f (st + 1) 6) (tkC (st + 1) 6 c) (tkL (st + 1) 6 0) (tkT (st + 1) 6 n) s (K + 1 + 1)) = _
      rw [m2, c2, l2, t2, ho, if_neg (by omega), if_neg (by simp)]
      rcases hf with ⟨rfl, rfl⟩ | ⟨rfl, rfl⟩
      · obtain ⟨e1, e2, -⟩ := h4.head
        have e2' : bat s (K + 1 + 1) = 46 := e2
        simp only [if_true] at he
        rw [go_on (Nat.le_of_lt e1) (nx_sign e1 e2' (by omega)) (by simp) rfl]
        show (if moveF 0 4 8 = -1 then _ else if overF 0 c 0 n ≠ 0 then _ else goF 0 (moveF 0 4 8) c 0 n s (K + 1 + 1 + 1)) = _
        rw [ho, if_neg (by decide), if_neg (by simp)]
        exact go_end (by omega) (by decide) (by
          show overF 0 (tkC 0 0 c) (tkL 0 0 0) (tkT 0 0 n) = 0
          exact ho)
      · simp only [Int.reduceEq, if_false] at he
        exact go_end (by omega) (by decide) ho
/-- The texts of ParseLimits: their table's begin. -/
theorem lim_head {s r : List UInt8} (hs : s = [104, 58, 45] ++ r) (hl : s.length ≤ 65536) : fltF 0 s = goF 0 5 1 0 0 s 3 ∧ Sta s 3 r := by
  have h0 : Sta s 0 s := Sta.all s
  obtain ⟨q, hq⟩ : ∃ q, q = s := ⟨_, rfl⟩
  have h : Sta s 0 ([104, 58, 45] ++ r) := by rw [← hs]; exact h0
  obtain ⟨a1, a2, h1⟩ := h.head
  obtain ⟨b1, b2, h2⟩ := h1.head
  obtain ⟨d1, d2, h3⟩ := h2.head
  have a2' : bat s 0 = 104 := a2
  have b2' : bat s (0 + 1) = 58 := b2
  have d2' : bat s (0 + 1 + 1) = 45 := d2
  refine ⟨?_, h3⟩
  rw [flt_go hl, go_on (Nat.le_of_lt a1) (nx_word a1 a2' (.inr rfl) (fun _ => by rw [b2']; decide)) (by simp) rfl]
  show goF 0 1 1 0 0 s (0 + 1) = _
  rw [go_on (Nat.le_of_lt b1) (nx_arrow (by omega) b2' d2') (by simp) rfl]
  rfl
theorem lim_open {f : Int} (hf : f = 0 ∨ f = 20) {s r : List UInt8} (hs : s = [112, 40] ++ r) (hl : s.length ≤ 65536) : fltF f s = goF f (f + 2) (if f = 0 then 1 else 0) 0 0 s 2 ∧ Sta s 2 r := by
  have h0 : Sta s 0 s := Sta.all s
  have h : Sta s 0 ([112, 40] ++ r) := by rw [← hs]; exact h0
  obtain ⟨a1, a2, h1⟩ := h.head
  obtain ⟨b1, b2, h2⟩ := h1.head
  have a2' : bat s 0 = 112 := a2
  have b2' : bat s (0 + 1) = 40 := b2
  refine ⟨?_, h2⟩
  rw [flt_go hl, go_on (Nat.le_of_lt a1) (nx_word a1 a2' (.inl rfl) (fun _ => by rw [b2']; decide)) (by simp) rfl]
  rcases hf with rfl | rfl
  · show goF 0 1 1 0 0 s (0 + 1) = _
    rw [go_on (Nat.le_of_lt b1) (nx_sign b1 b2' (by omega)) (by simp) rfl]
    rfl
  · show goF 20 21 0 0 0 s (0 + 1) = _
    rw [go_on (Nat.le_of_lt b1) (nx_sign b1 b2' (by omega)) (by simp) rfl]
    rfl
def limT (k n : Nat) (bad : Bool) : List UInt8 :=
  if k = 0 ∨ k = 1 then repF [112, 46] (n - 1) ++ (if bad = true then [41, 46] else [112, 46])
  else if k = 2 then [104, 58, 45] ++ (repF [49, 61, 49, 44] (n - 1) ++ ((if bad = true then [41] else [49]) ++ [61, 49, 46]))
  else if k = 3 then repF [49, 61, 49, 44] (n - 1) ++ ((if bad = true then [41] else [49]) ++ [61, 49, 46])
  else if k = 4 then [112, 40] ++ (repF [49, 44] (n - 1) ++ ((if bad = true then [41] else [49]) ++ [41, 46]))
  else [112, 40] ++ (repF [49, 44] (n - 1) ++ ((if bad = true then [41] else [49]) ++ [41]))
def limM (k : Nat) : Nat := if k = 0 then 512 else if k = 1 then 4096 else if k = 2 ∨ k = 3 then 16 else 8
def limB (k : Nat) : Nat := if k = 2 then 3 else if 4 ≤ k then 2 else 0
def limC (k : Nat) : Int := if k < 2 then 24 else if k < 4 then 23 else 22
def limZ (k : Nat) : Nat := if k = 2 ∨ k = 3 then 4 else 2
def limR (k : Nat) : Nat := if k = 1 then 1 else if k = 3 then 2 else if k = 5 then 3 else 0
/-- P3.2: just so many; one more; a token that can't stand there. -/
theorem lim_all {k n : Nat} (hk : k < 6) (hn : 1 ≤ n) (hb : n ≤ 5000) (bad : Bool) : fltF (rdF (limR k)) (limT k n bad) = if limM k < n ∧ (bad = false ∨ limM k + 1 < n) then (limC k, ((limB k + limZ k * limM k : Nat) : Int)) else if bad = true then (20, ((limB k + limZ k * (n - 1) : Nat) : Int)) else (0, 0) := by
  have hlast : (if bad = true then [41] else [49] : List UInt8).length = 1 := by cases bad <;> rfl
  have hl4 : ∀ r : List UInt8, (repF [49, 61, 49, 44] (n - 1) ++ ((if bad = true then [41] else [49]) ++ r)).length = 4 * (n - 1) + 1 + r.length := by
    intro r
    rw [List.length_append, List.length_append, repF_len, hlast]; simp; omega
  have hl2 : ∀ r : List UInt8, (repF [49, 44] (n - 1) ++ ((if bad = true then [41] else [49]) ++ r)).length = 2 * (n - 1) + 1 + r.length := by
    intro r
    rw [List.length_append, List.length_append, repF_len, hlast]; simp; omega
  obtain h | h | h | h | h | h : k = 0 ∨ k = 1 ∨ k = 2 ∨ k = 3 ∨ k = 4 ∨ k = 5 := by omega
  · subst h
    have := lim_facts (f := 0) (.inl rfl) hn hb bad
    rw [show capM 0 = 512 from rfl] at this
    simpa [limR, limT, limM, limB, limC, limZ, rdF] using this
  · subst h
    have := lim_facts (f := 15) (.inr rfl) hn hb bad
    rw [show capM 15 = 4096 from rfl] at this
    simpa [limR, limT, limM, limB, limC, limZ, rdF] using this
  · subst h
    show fltF 0 ([104, 58, 45] ++ (repF [49, 61, 49, 44] (n - 1) ++ ((if bad = true then [41] else [49]) ++ [61, 49, 46]))) = _
    obtain ⟨s, hs⟩ : ∃ s, s = [104, 58, 45] ++ (repF [49, 61, 49, 44] (n - 1) ++ ((if bad = true then [41] else [49]) ++ [61, 49, 46])) := ⟨_, rfl⟩
    have hl : s.length = 3 + 4 * n := by rw [hs, List.length_append, hl4]; simp; omega
    obtain ⟨g1, g2⟩ := lim_head hs (by omega)
    rw [← hs, g1, lim_tests (f := 0) (.inl rfl) rfl hn bad g2 (by omega)]
    simp [limM, limB, limC, limZ]
  · subst h
    show fltF 5 (repF [49, 61, 49, 44] (n - 1) ++ ((if bad = true then [41] else [49]) ++ [61, 49, 46])) = _
    obtain ⟨s, hs⟩ : ∃ s, s = repF [49, 61, 49, 44] (n - 1) ++ ((if bad = true then [41] else [49]) ++ [61, 49, 46]) := ⟨_, rfl⟩
    have hl : s.length = 4 * n := by rw [hs, hl4]; simp; omega
    rw [← hs, flt_go (by omega), lim_tests (f := 5) (.inr rfl) rfl hn bad (by rw [← hs]; exact Sta.all s) (by omega)]
    simp [limM, limB, limC, limZ]
  · subst h
    show fltF 0 ([112, 40] ++ (repF [49, 44] (n - 1) ++ ((if bad = true then [41] else [49]) ++ [41, 46]))) = _
    obtain ⟨s, hs⟩ : ∃ s, s = [112, 40] ++ (repF [49, 44] (n - 1) ++ ((if bad = true then [41] else [49]) ++ [41, 46])) := ⟨_, rfl⟩
    have hl : s.length = 3 + 2 * n := by rw [hs, List.length_append, hl2]; simp; omega
    obtain ⟨g1, g2⟩ := lim_open (.inl rfl) hs (by omega)
    rw [← hs, g1, lim_terms (f := 0) (st := 0 + 2) (.inl ⟨rfl, rfl⟩) rfl hn bad g2 (by simp; omega)]
    simp [limM, limB, limC, limZ]
  · subst h
    show fltF 20 ([112, 40] ++ (repF [49, 44] (n - 1) ++ ((if bad = true then [41] else [49]) ++ [41]))) = _
    obtain ⟨s, hs⟩ : ∃ s, s = [112, 40] ++ (repF [49, 44] (n - 1) ++ ((if bad = true then [41] else [49]) ++ [41])) := ⟨_, rfl⟩
    have hl : s.length = 2 + 2 * n := by rw [hs, List.length_append, hl2]; simp; omega
    obtain ⟨g1, g2⟩ := lim_open (.inr rfl) hs (by omega)
    rw [← hs, g1, lim_terms (f := 20) (st := 20 + 2) (.inr ⟨rfl, rfl⟩) rfl hn bad g2 (by simp; omega)]
    simp [limM, limB, limC, limZ]
end Edict
