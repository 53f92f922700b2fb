/- PrintSpoilt: what the law makes, and what it spoils: plainly. -/
import Derived.Test.YtdaldilmjhdpaaaWell
namespace Edict
abbrev Byts := List UInt8
def okC (b : UInt8) : UInt8 := if (97 ≤ b ∧ b ≤ 122) ∨ (65 ≤ b ∧ b ≤ 90) ∨ (48 ≤ b ∧ b ≤ 57) then b else 95
def wrdF (g : UInt8) (s : Byts) : Byts := match s with
  | [] => [g]
  | c :: l => (g + c % 26) :: (l.take 63).map okC
def nameM (s : Byts) : Byts := if wrdF 97 s = [110, 111, 116] then [110, 111, 116, 101] else wrdF 97 s
def varM (s : Byts) : Byts := if s.length % 5 = 1 then [95] else if s.length % 5 = 2 ∧ s.length < 64 then 95 :: wrdF 65 s else wrdF 65 s
def conM (k n : Int) (s : Byts) : Const := if k % 3 = 0 then (1, n, []) else if k % 3 = 1 then (2, 0, nameM s) else (3, 0, s.take 255)
def trmM (t : Term) : Term := if t.1 % 4 = 0 then (4, 0, varM t.2.2.1, t.2.2.2) else ((conM t.1 t.2.1 t.2.2.1).1, (conM t.1 t.2.1 t.2.2.1).2.1, (conM t.1 t.2.1 t.2.2.1).2.2, t.2.2.2)
def madM (a : Atom) : Atom := (nameM a.1, (a.2.1.take 8).map trmM, a.2.2)
theorem okC_ok (b : UInt8) : okB (okC b).toNat = true := by
  unfold okC
  split
  · rename_i h
    simp only [UInt8.le_iff_toNat_le] at h
    have e1 : (97 : UInt8).toNat = 97 := rfl
    have e2 : (122 : UInt8).toNat = 122 := rfl
    have e3 : (65 : UInt8).toNat = 65 := rfl
    have e4 : (90 : UInt8).toNat = 90 := rfl
    have e5 : (48 : UInt8).toNat = 48 := rfl
    have e6 : (57 : UInt8).toNat = 57 := rfl
    rw [e1, e2, e3, e4, e5, e6] at h
    generalize b.toNat = n at h ⊢
    unfold okB smallB bigB
    simp; omega
  · rfl
theorem beg_at {g : UInt8} (hg : g.toNat ≤ 200) (c : UInt8) : (g + c % 26).toNat = g.toNat + c.toNat % 26 := by
  rw [UInt8.toNat_add, UInt8.toNat_mod]
  have : (26 : UInt8).toNat = 26 := rfl
  rw [this]
  omega
theorem wrd_word {f : Int → Bool} {g : UInt8} (hg : g.toNat ≤ 200) (hf : ∀ n : Nat, g.toNat ≤ n → n ≤ g.toNat + 25 → f n = true) (s : Byts) : wordB f (wrdF g s) = true := by
  match s with
  | [] => simp [wrdF, wordB, hf g.toNat (Nat.le_refl _) (by omega)]
  | c :: l =>
    have h1 : f ((g + c % 26).toNat : Nat) = true := by rw [beg_at hg]; exact hf _ (by omega) (by omega)
    have h2 : ((l.take 63).map okC).all (fun c => okB c.toNat) = true := by
      rw [List.all_eq_true]
      intro x hx
      obtain ⟨y, -, rfl⟩ := List.mem_map.1 hx
      exact okC_ok y
    have h3 : ((l.take 63).map okC).length ≤ 63 := by rw [List.length_map, List.length_take]; omega
    unfold wrdF wordB
    simp only [h1, h2, Bool.and_true, decide_eq_true_eq]
    omega
theorem small97 : ∀ n : Nat, (97 : UInt8).toNat ≤ n → n ≤ (97 : UInt8).toNat + 25 → smallB n = true := fun n h1 h2 => by
  have e : (97 : UInt8).toNat = 97 := rfl
  rw [e] at h1 h2
  unfold smallB; simp; omega
theorem big65 : ∀ n : Nat, (65 : UInt8).toNat ≤ n → n ≤ (65 : UInt8).toNat + 25 → bigB n = true := fun n h1 h2 => by
  have e : (65 : UInt8).toNat = 65 := rfl
  rw [e] at h1 h2
  unfold bigB; simp; omega
theorem name_ok (s : Byts) : nameB (nameM s) = true := by
  unfold nameM
  split
  · rfl
  · rename_i h
    unfold nameB
    rw [decide_eq_false h, wrd_word (by decide) small97]; rfl
theorem okB_small {n : Int} (h : smallB n = true) : okB n = true := by unfold okB; rw [h]; rfl
theorem wrd_len (g : UInt8) (s : Byts) : 1 ≤ (wrdF g s).length ∧ (wrdF g s).length ≤ s.length + 1 ∧ (s ≠ [] → (wrdF g s).length ≤ s.length) := by
  match s with
  | [] => simp [wrdF]
  | c :: l => simp [wrdF]; omega
theorem wrd_all {f : Int → Bool} {g : UInt8} (hg : g.toNat ≤ 200) (hf : ∀ n : Nat, g.toNat ≤ n → n ≤ g.toNat + 25 → f n = true) (hk : ∀ n : Int, f n = true → okB n = true) (s : Byts) : (wrdF g s).all (fun c => okB c.toNat) = true := by
  have h := wrd_word hg hf s
  match hw : wrdF g s with
  | [] => rfl
  | b :: r =>
    rw [hw] at h
    unfold wordB at h
    simp only [Bool.and_eq_true] at h
    rw [List.all_cons, hk _ h.2.1, h.2.2]; rfl
theorem var_ok (s : Byts) : varB (varM s) = true := by
  unfold varB varM
  split
  · rfl
  · split
    · rename_i h
      have hl := wrd_len 65 s
      have ha := wrd_all (g := 65) (f := bigB) (by decide) big65 (fun n h => by unfold okB; rw [h]; simp) s
      have hne : s ≠ [] := fun e => by rw [e] at h; simp at h
      have := hl.2.2 hne
      show (decide ((wrdF 65 s).length + 1 ≤ 64) && (bigB (95 : UInt8).toNat && (wrdF 65 s).all fun c => okB c.toNat)) = true
      rw [ha, decide_eq_true (by omega)]; rfl
    · exact wrd_word (by decide) big65 s
theorem con_ok (k n : Int) (s : Byts) : validB (conM k n s) = true := by
  unfold conM
  split
  · rfl
  · split
    · show (decide ((0 : Int) = 0) && nameB (nameM s)) = true
      rw [name_ok]; rfl
    · show (decide ((0 : Int) = 0) && decide ((s.take 255).length ≤ 255)) = true
      have h1 : (s.take 255).length ≤ 255 := by rw [List.length_take]; omega
      rw [decide_eq_true h1]; rfl
theorem con_kind (k n : Int) (s : Byts) : (conM k n s).1 ≠ 4 := by
  unfold conM; split
  · show (1 : Int) ≠ 4; decide
  · split <;> simp
theorem trm_ok (t : Term) : termW (trmM t) = 0 := by
  unfold trmM
  split
  · unfold termW; rw [if_pos rfl, if_pos ⟨rfl, var_ok _⟩]
  · unfold termW; rw [if_neg (con_kind _ _ _)]
    unfold constW
    rw [if_pos (con_ok _ _ _)]
theorem firstW_zero2 {α : Type} {f : α → Int} : ∀ {l : List α}, (∀ x ∈ l, f x = 0) → firstW f l = 0
  | [], _ => rfl
  | x :: l, h => by rw [firstW, if_pos (h x (List.mem_cons_self ..))]; exact firstW_zero2 fun y hy => h y (List.mem_cons_of_mem _ hy)
theorem mad_ok (a : Atom) : atomW (madM a) = 0 := by
  unfold atomW madM
  simp only
  rw [if_pos (name_ok _), if_neg (by rw [List.length_map, List.length_take]; omega)]
  refine firstW_zero2 fun t ht => ?_
  obtain ⟨x, -, rfl⟩ := List.mem_map.1 ht
  exact trm_ok x
/-! ### Spoilt -/
def zT : Term := (0, 0, [], 0)
def zA : Atom := ([], [], 0)
def vX : Term := (4, 0, [88], 0)
def aQ : Atom := ([113], [], 0)
def lQ : Literal := (1, aQ, 0, zT, zT, 0)
def spoC (hd : Atom) (w : Int) : Clause :=
  if w = 0 then (([81], hd.2.1, hd.2.2), [])
  else if w = 1 then ((hd.1, hd.2.1 ++ List.replicate (9 - hd.2.1.length) vX, hd.2.2), [])
  else if w = 2 then ((hd.1, [zT], hd.2.2), [])
  else if w = 3 then ((hd.1, [(4, 1, [88], 0)], hd.2.2), [])
  else if w = 4 then (hd, List.replicate 17 lQ)
  else if w = 5 then (hd, [(0, aQ, 0, zT, zT, 0)])
  else if w = 6 then (hd, [(1, aQ, 1, zT, zT, 0)])
  else if w = 7 then (hd, [(3, zA, 7, vX, vX, 0)])
  else if w = 8 then (hd, [(3, aQ, 1, vX, vX, 0)])
  else if w = 9 then (hd, [(1, aQ, 0, (1, 0, [], 0), zT, 0)])
  else if w = 10 then (hd, [(3, zA, 1, vX, (2, 0, [110, 111, 116], 0), 0)])
  else (hd, [(2, ([110, 111, 116], [], 0), 0, zT, zT, 0)])
def spoW (w : Int) : Int := if w = 0 ∨ w = 3 then 14 else if w = 1 then 22 else if w = 2 ∨ w = 10 then 5 else if w = 4 then 23 else if 5 ≤ w ∧ w ≤ 9 then 2 else 14
theorem spo_cases {w : Int} (h0 : 0 ≤ w) (h : w < 12) : w = 0 ∨ w = 1 ∨ w = 2 ∨ w = 3 ∨ w = 4 ∨ w = 5 ∨ w = 6 ∨ w = 7 ∨ w = 8 ∨ w = 9 ∨ w = 10 ∨ w = 11 := by omega
theorem nameB_of {a : Atom} (h : atomW a = 0) : nameB a.1 = true := by
  unfold atomW at h
  split at h
  · assumption
  · cases h
theorem spo_body {hd : Atom} {x : Literal} {e : Int} (h : atomW hd = 0) (hx : litW x = e) (he : e ≠ 0) : clauseW (hd, [x]) = e := by
  unfold clauseW
  simp only
  rw [if_pos h, if_neg (by simp), firstW, if_neg (by rw [hx]; exact he), hx]
theorem spo_why {hd : Atom} {w : Int} (h0 : 0 ≤ w) (hw : w < 12) (h : atomW hd = 0) : clauseW (spoC hd w) = spoW w := by
  have hn := nameB_of h
  rcases spo_cases h0 hw with rfl | rfl | rfl | rfl | rfl | rfl | rfl | rfl | rfl | rfl | rfl | rfl
  · rfl
  · show clauseW ((hd.1, hd.2.1 ++ List.replicate (9 - hd.2.1.length) vX, hd.2.2), []) = 22
    have : atomW (hd.1, hd.2.1 ++ List.replicate (9 - hd.2.1.length) vX, hd.2.2) = 22 := by
      unfold atomW
      simp only
      rw [if_pos hn, if_pos (by rw [List.length_append, List.length_replicate]; omega)]
    unfold clauseW
    simp only
    rw [if_neg (by rw [this]; decide), this]
  · show clauseW ((hd.1, [zT], hd.2.2), []) = 5
    have : atomW (hd.1, [zT], hd.2.2) = 5 := by
      unfold atomW
      simp only
      rw [if_pos hn]; rfl
    unfold clauseW
    simp only
    rw [if_neg (by rw [this]; decide), this]
  · show clauseW ((hd.1, [(4, 1, [88], 0)], hd.2.2), []) = 14
    have : atomW (hd.1, [((4, 1, [88], 0) : Term)], hd.2.2) = 14 := by
      unfold atomW
      simp only
      rw [if_pos hn]; rfl
    unfold clauseW
    simp only
    rw [if_neg (by rw [this]; decide), this]
  · show clauseW (hd, List.replicate 17 lQ) = 23
    unfold clauseW
    simp only
    rw [if_pos h, if_pos (by rw [List.length_replicate]; decide)]
  · exact spo_body h rfl (by decide)
  · exact spo_body h rfl (by decide)
  · exact spo_body h rfl (by decide)
  · exact spo_body h rfl (by decide)
  · exact spo_body h rfl (by decide)
  · exact spo_body h rfl (by decide)
  · exact spo_body h rfl (by decide)
theorem spo_ne (w : Int) : spoW w ≠ 0 := by
  unfold spoW; split
  · decide
  · split
    · decide
    · split
      · decide
      · split
        · decide
        · split <;> decide
theorem spo_well {hd : Atom} {w : Int} {q : List Clause} (h0 : 0 ≤ w) (hw : w < 12) (h : atomW hd = 0) (hq : q.length ≤ 500) : wellW (spoC hd w :: q) = spoW w := by
  unfold wellW
  rw [if_neg (by simp only [List.length_cons]; omega), firstW, if_neg (by rw [spo_why h0 hw h]; exact spo_ne w), spo_why h0 hw h]
end Edict
