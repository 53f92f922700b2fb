/- The plain law of spellings laid side by side, a blank between. -/
import Derived.Test.YtbkpmdgeeolifaaDoorLexQ
namespace Edict
def oN (t : Tok) : Nat := t.2.2.2.2.1.toNat
def eN (t : Tok) : Nat := t.2.2.2.2.2.toNat
def place (t : Tok) (b : Nat) : Tok := (t.1, t.2.1, t.2.2.1, t.2.2.2.1, (b : Int), ((b + (eN t - oN t) : Nat) : Int))
def piece (s : List UInt8) (t : Tok) : List UInt8 := (s.take (eN t)).drop (oN t)
/-- A token that stands in s. -/
def Good (s : List UInt8) (t : Tok) : Prop := t.1 ≠ 0 ∧ t.2.2.2.2.1 = (oN t : Int) ∧ t.2.2.2.2.2 = (eN t : Int) ∧ oN t < eN t ∧ eN t ≤ s.length ∧ tokF s (oN t) = .ok t
def tb (s : List UInt8) : List Tok → List UInt8
  | [] => []
  | t :: r => 32 :: (piece s t ++ tb s r)
def spx (s : List UInt8) : List Tok → List UInt8
  | [] => []
  | t :: r => piece s t ++ tb s r
def mv : Nat → List Tok → List Tok
  | _, [] => []
  | b, t :: r => place t b :: mv (b + (eN t - oN t) + 1) r
def wd : List Tok → Nat
  | [] => 0
  | t :: r => eN t - oN t + 1 + wd r
theorem piece_len {s : List UInt8} {t : Tok} (h : Good s t) : (piece s t).length = eN t - oN t := by
  have := h.2.2.2.2.1
  unfold piece; simp; omega
theorem tb_len {s : List UInt8} : ∀ {l : List Tok}, (∀ t ∈ l, Good s t) → (tb s l).length = wd l
  | [], _ => rfl
  | t :: r, h => by
    unfold tb wd
    rw [List.length_cons, List.length_append, piece_len (h t (by simp)), tb_len (fun t ht => h t (List.mem_cons_of_mem _ ht))]
    omega
theorem tb_snoc (s : List UInt8) (t : Tok) : ∀ l : List Tok, tb s (l ++ [t]) = tb s l ++ 32 :: piece s t
  | [] => by simp [tb]
  | x :: l => by rw [List.cons_append, tb, tb, tb_snoc s t l]; simp
theorem spx_snoc (s : List UInt8) (t x : Tok) (l : List Tok) : spx s (x :: l ++ [t]) = spx s (x :: l) ++ 32 :: piece s t := by
  rw [List.cons_append, spx, spx, tb_snoc]; simp
theorem mv_snoc (t : Tok) : ∀ (l : List Tok) (b : Nat), mv b (l ++ [t]) = mv b l ++ [place t (b + wd l)]
  | [], b => by simp [mv, wd]
  | x :: l, b => by
    rw [List.cons_append, mv, mv, mv_snoc t l, wd]
    rw [show b + (eN x - oN x) + 1 + wd l = b + (eN x - oN x + 1 + wd l) by omega]
    rfl
theorem spx_len {s : List UInt8} {t : Tok} {l : List Tok} (h : ∀ x ∈ t :: l, Good s x) : (spx s (t :: l)).length + 1 = wd (t :: l) := by
  rw [spx, wd, List.length_append, piece_len (h t (by simp)), tb_len (fun x hx => h x (List.mem_cons_of_mem _ hx))]
  omega
theorem mv_len : ∀ (l : List Tok) (b : Nat), (mv b l).length = l.length
  | [], _ => rfl
  | t :: l, b => by rw [mv, List.length_cons, mv_len l, List.length_cons]
theorem mv_get : ∀ {l : List Tok} {b i : Nat} {t : Tok}, l[i]? = some t → ∃ d, (mv b l)[i]? = some (place t (b + d)) ∧ d + (eN t - oN t) + 1 ≤ wd l
  | [], _, _, _, h => by simp at h
  | x :: l, b, 0, t, h => by
    simp only [List.getElem?_cons_zero, Option.some.injEq] at h
    subst h
    exact ⟨0, by simp [mv], by rw [wd]; omega⟩
  | x :: l, b, i + 1, t, h => by
    rw [List.getElem?_cons_succ] at h
    obtain ⟨d, h1, h2⟩ := mv_get (b := b + (eN x - oN x) + 1) h
    refine ⟨eN x - oN x + 1 + d, ?_, by rw [wd]; omega⟩
    rw [mv, List.getElem?_cons_succ, h1, show b + (eN x - oN x) + 1 + d = b + (eN x - oN x + 1 + d) by omega]
theorem good_tok {s : List UInt8} {t : Tok} (h : Good s t) : tokF s (oN t) = .ok (t.1, t.2.1, t.2.2.1, t.2.2.2.1, (oN t : Int), (eN t : Int)) := by
  obtain ⟨h1, h2, h3, h4, h5, h6⟩ := h
  rw [h6]
  obtain ⟨c, v, n, p, o, e⟩ := t
  simp only at h2 h3 ⊢
  rw [← h2, ← h3]
/-- A good token's spelling, at b in x, and what follows it does no harm: it is found. -/
theorem found {s x : List UInt8} {t : Tok} {b : Nat} (h : Good s t) (hx : ∀ i, i < eN t - oN t → bat x (b + i) = bat (piece s t) i) (hl : b + (eN t - oN t) ≤ x.length) (hf : b + (eN t - oN t) = x.length ∨ bat x (b + (eN t - oN t)) = 32) :
    tokF x b = .ok (place t b) := by
  have ha : Ag s x (oN t) b (eN t - oN t) := by
    have := h.2.2.2.2.1; have := h.2.2.2.1
    refine ⟨by omega, hl, fun i hi => ?_⟩
    rw [hx i hi]
    exact (bat_sub h.2.2.2.2.1 (by omega)).symm
  refine tok_loc (good_tok h) h.1 ha ?_
  rcases hf with hf | hf
  · exact .inl hf
  · exact .inr (.inl (by rw [hf]; decide))
theorem scan_tb {s : List UInt8} : ∀ {l : List Tok} (P : List UInt8), (∀ t ∈ l, Good s t) → scanK (P ++ tb s l) P.length = (mv (P.length + 1) l ++ [endT (P ++ tb s l).length], 0, 0)
  | [], P, _ => by
    have e : P ++ tb s [] = P := by simp [tb]
    rw [e, next_end (gap_end (Nat.le_refl _))]
    rfl
  | t :: r, P, h => by
    have ht := h t (by simp)
    have hp := piece_len ht
    have h4 := ht.2.2.2.1
    obtain ⟨x, hx⟩ : ∃ x, x = P ++ tb s (t :: r) := ⟨_, rfl⟩
    have hx1 : x = P ++ 32 :: (piece s t ++ tb s r) := hx
    have hx2 : x = (P ++ 32 :: piece s t) ++ tb s r := by rw [hx1]; simp
    have hxl : x.length = P.length + (eN t - oN t) + 1 + (tb s r).length := by rw [hx1]; simp [hp]; omega
    have b0 : bat x P.length = 32 := by
      have := bat_appR (s := P) (t := 32 :: (piece s t ++ tb s r)) (i := 0)
      rw [hx1]; exact this
    have hP : (P ++ 32 :: piece s t).length = P.length + 1 + (eN t - oN t) := by simp [hp]; omega
    have bi : ∀ i, i < eN t - oN t → bat x (P.length + 1 + i) = bat (piece s t) i := fun i hi => by
      have e : x = (P ++ [32]) ++ (piece s t ++ tb s r) := by rw [hx1]; simp
      have := bat_appR (s := P ++ [32]) (t := piece s t ++ tb s r) (i := i)
      rw [List.length_append, List.length_singleton] at this
      rw [e, this, bat_app (by omega)]
    have hf : P.length + 1 + (eN t - oN t) = x.length ∨ bat x (P.length + 1 + (eN t - oN t)) = 32 := by
      cases r with
      | nil => left; rw [hxl]; simp [tb]; omega
      | cons y r =>
        right
        have := bat_appR (s := P ++ 32 :: piece s t) (t := tb s (y :: r)) (i := 0)
        rw [← hx2, hP] at this
        exact this
    have hto := found ht bi (by omega) hf
    have hg : gapF x P.length = (P.length + 1, true) := by
      rw [gap_bl (by omega) (by rw [b0]; decide), gap_tok (by omega) hto]
    have hn : nextF x P.length = .ok (place t (P.length + 1)) := by unfold nextF; rw [hg]; exact hto
    have ih := scan_tb (l := r) (P ++ 32 :: piece s t) (fun x hx => h x (List.mem_cons_of_mem _ hx))
    rw [← hx2, hP] at ih
    rw [← hx, scanK_on (by omega) hn ht.1]
    simp only [place, Int.toNat_natCast]
    rw [ih, mv]
    rfl
/-- LexSpaced. -/
theorem spaced_scan {s : List UInt8} {l : List Tok} (h : ∀ t ∈ l, Good s t) (hl : (spx s l).length ≤ 65536) : scanF (spx s l) = (mv 0 l ++ [endT (spx s l).length], 0, 0) := by
  rw [scanF_K hl]
  cases l with
  | nil => exact next_end (gap_end (Nat.le_refl _))
  | cons t r =>
    have ht := h t (by simp)
    have hp := piece_len ht
    have h4 := ht.2.2.2.1
    have hxl : (spx s (t :: r)).length = (eN t - oN t) + (tb s r).length := by rw [spx]; simp [hp]
    have hto : tokF (spx s (t :: r)) 0 = .ok (place t 0) := by
      refine found ht (fun i hi => by rw [Nat.zero_add, spx, bat_app (by omega)]) (by omega) ?_
      rw [Nat.zero_add]
      cases r with
      | nil => left; rw [hxl]; simp [tb]
      | cons y r =>
        right
        have := bat_appR (s := piece s t) (t := tb s (y :: r)) (i := 0)
        rw [hp] at this
        exact this
    have hn : nextF (spx s (t :: r)) 0 = .ok (place t 0) := by unfold nextF; rw [gap_tok (by omega) hto]; exact hto
    have ih := scan_tb (l := r) (piece s t) (fun x hx => h x (List.mem_cons_of_mem _ hx))
    rw [hp] at ih
    rw [scanK_on (Nat.zero_le _) hn ht.1]
    simp only [place, Int.toNat_natCast, Nat.zero_add]
    rw [show spx s (t :: r) = piece s t ++ tb s r from rfl, ih, mv, Nat.zero_add]
    simp [place]
/-- What a scan finds stands in the text. -/
theorem scan_good {s : List UInt8} {l : List Tok} {f : Int × Nat} (h : scanK s 0 = (l, f)) : ∀ t ∈ l, t.1 ≠ 0 → Good s t := fun t ht hc => by
  obtain ⟨c, v, n, p, o, e, rfl, h1, h2, h3, h4⟩ := scan_mem (Nat.zero_le _) h t ht hc
  exact ⟨hc, by simp [oN], by simp [eN], by simp [oN, eN]; omega, by simpa [eN] using h3, by simpa [oN] using h4⟩
def offsF (l : List Tok) : List Int := (mv 0 l).map fun t => t.2.2.2.2.1
theorem offs_snoc (l : List Tok) (t : Tok) : offsF (l ++ [t]) = offsF l ++ [(wd l : Int)] := by unfold offsF; rw [mv_snoc, List.map_append]; simp [place]
theorem offs_len (l : List Tok) : (offsF l).length = l.length := by unfold offsF; rw [List.length_map, mv_len]
theorem offs_get {l : List Tok} {i : Nat} {t : Tok} (h : l[i]? = some t) : ∃ d, (mv 0 l)[i]? = some (place t d) ∧ (offsF l)[i]? = some (d : Int) ∧ d + (eN t - oN t) + 1 ≤ wd l := by
  obtain ⟨d, h1, h2⟩ := mv_get (b := 0) h
  rw [Nat.zero_add] at h1
  exact ⟨d, h1, by unfold offsF; rw [List.getElem?_map, h1]; rfl, h2⟩
theorem wd_le {s : List UInt8} (hs : s.length ≤ 65536) : ∀ {l : List Tok}, (∀ t ∈ l, Good s t) → wd l ≤ l.length * 65537
  | [], _ => by simp [wd]
  | t :: l, h => by
    have := wd_le hs (l := l) (fun x hx => h x (List.mem_cons_of_mem _ hx))
    have := (h t (by simp)).2.2.2.2.1
    rw [wd, List.length_cons]; omega
def baseS (s : List UInt8) (l : List Tok) : List UInt8 := if l = [] then [] else spx s l ++ [32]
theorem base_len {s : List UInt8} {l : List Tok} (h : ∀ t ∈ l, Good s t) : (baseS s l).length = wd l := by
  unfold baseS
  cases l with
  | nil => rfl
  | cons t r => rw [if_neg (by simp), List.length_append, List.length_singleton, spx_len h]
theorem base_spx (s : List UInt8) (l : List Tok) (t : Tok) : baseS s l ++ piece s t = spx s (l ++ [t]) := by
  unfold baseS
  cases l with
  | nil => simp [spx, tb]
  | cons x r => rw [if_neg (by simp), spx_snoc]; simp
theorem piece_get {s : List UInt8} {t : Tok} (h : Good s t) {j : Nat} (hj : j < eN t - oN t) : (piece s t).take (j + 1) = (piece s t).take j ++ [UInt8.ofNat (bat s (oN t + j))] := by
  have hl := piece_len h
  have hb := bat_sub h.2.2.2.2.1 (k := oN t) (i := j) (by omega)
  rw [List.take_add_one]
  have := get_bat (s := piece s t) (i := j) (by omega)
  rw [this]
  unfold piece
  rw [hb]; rfl
end Edict
