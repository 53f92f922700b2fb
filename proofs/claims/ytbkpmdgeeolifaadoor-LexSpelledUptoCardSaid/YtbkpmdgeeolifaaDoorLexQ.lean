/- The plain law of a text with more behind it. -/
import Derived.Test.YtbkpmdgeeolifaaDoorLexO
namespace Edict
theorem bat_app {s t : List UInt8} {i : Nat} (h : i < s.length) : bat (s ++ t) i = bat s i := by
  unfold bat; rw [List.getD_eq_getElem?_getD, List.getD_eq_getElem?_getD, List.getElem?_append_left h]
theorem bat_appR {s t : List UInt8} {i : Nat} : bat (s ++ t) (s.length + i) = bat t i := by
  unfold bat; rw [List.getD_eq_getElem?_getD, List.getD_eq_getElem?_getD, List.getElem?_append_right (by omega)]; congr 3; omega
theorem more_scan {s m : List UInt8} : ∀ {r : List Tok} {k : Nat}, k ≤ s.length → (∀ t ∈ r, t.1 ≠ 0) → scanK s k = (r ++ [endT s.length], 0, 0) → ∃ q f, scanK (s ++ 10 :: m) k = (r ++ q, f)
  | [], k, hk, hr, h => ⟨_, _, by rw [List.nil_append]⟩
  | t :: r, k, hk, hr, h => by
    obtain ⟨h1, h2⟩ := scan_cons hk h
    have ht := hr t (by simp)
    obtain ⟨h2, h3⟩ : t.1 ≠ 0 ∧ scanK s t.2.2.2.2.2.toNat = (r ++ [endT s.length], 0, 0) := h2.resolve_left (fun q => ht q.1)
    obtain ⟨c, v, n, p, o, e, rfl, q1, q2, q3, q4⟩ := next_ok hk h1
    simp only at h2
    rw [Int.toNat_natCast] at h3
    have hoe := q4 h2
    have hl : (s ++ 10 :: m).length = s.length + (m.length + 1) := by simp
    have hag : Ag s (s ++ 10 :: m) 0 0 e := ⟨by omega, by omega, fun i hi => by rw [Nat.zero_add, bat_app (by omega)]⟩
    have hf : Fol s (s ++ 10 :: m) o o (e - o) := by
      unfold Fol
      rw [show o + (e - o) = e by omega]
      by_cases he : e = s.length
      · have hb : bat (s ++ 10 :: m) e = 10 := by
          have := bat_appR (s := s) (t := 10 :: m) (i := 0)
          rw [he]; exact this
        rw [hb]
        exact .inr (.inl ⟨by decide, by decide⟩)
      · exact .inr (.inr ⟨by omega, by omega, bat_app (by omega)⟩)
    have hn := next_pre (t := s ++ 10 :: m) hk h1 h2 hag hf
    obtain ⟨q, f, hq⟩ := more_scan (m := m) (k := e) q2 (fun t ht => hr t (List.mem_cons_of_mem _ ht)) h3
    refine ⟨q, f, ?_⟩
    rw [scanK_on (by omega) hn h2]
    simp only [Int.toNat_natCast]
    rw [hq]
    rfl
end Edict
