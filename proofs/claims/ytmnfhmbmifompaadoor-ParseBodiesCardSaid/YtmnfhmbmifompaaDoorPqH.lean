/- A query behind a head. -/
import Derived.Test.YtmnfhmbmifompaaDoorPqG
namespace Edict
/-! ### A query behind a head -/
theorem body_ne {bad : Flt} : ∀ (l : List Tok) (acc b : List LitT) (q : List Tok), bodyD bad acc l = .ok (b, q) → acc.length < b.length
  | [], acc, b, q, h => by rw [bodyD_nil] at h; cases h
  | t :: l, acc, b, q, h => by
    by_cases hf : 16 ≤ acc.length ∧ (tK t = 10 ∨ isT (tK t) true = true)
    · rw [bodyD_full hf] at h; cases h
    · cases he : litD bad (t :: l) with
      | error e => rw [bodyD_err hf he] at h; cases h
      | ok xr =>
        obtain ⟨x, r⟩ := xr
        rw [bodyD_lit hf he] at h
        have hlen := litD_len he
        cases r with
        | nil => cases h
        | cons c r =>
          simp only at h
          split at h
          · have := body_ne r _ _ _ h
            simp only [List.length_append, List.length_cons, List.length_nil] at this
            omega
          · split at h
            · cases h; simp
            · cases h
termination_by l => l.length
decreasing_by simp only [List.length_cons] at *; omega
theorem all_more {α : Type} {bad : Flt} {m : Nat} {one : List Tok → PR α} {hone : ∀ l x q, one l = .ok (x, q) → q.length < l.length} : ∀ (l : List Tok) (acc a : List α), allD bad m one hone acc l = .ok a → acc.length ≤ a.length ∧ (∀ t r, l = t :: r → tK t ≠ 0 → acc.length < a.length)
  | [], acc, a, h => by rw [allD_nil] at h; cases h
  | t :: l, acc, a, h => by
    by_cases h0 : tK t = 0
    · rw [allD_end h0] at h; cases h
      exact ⟨Nat.le_refl _, fun t' r e q => by cases e; exact absurd h0 q⟩
    · by_cases hf : m ≤ acc.length ∧ tK t = 1
      · rw [allD_full h0 hf] at h; cases h
      · cases he : one (t :: l) with
        | error e => rw [allD_err h0 hf he] at h; cases h
        | ok xr =>
          obtain ⟨x, r⟩ := xr
          rw [allD_on h0 hf he] at h
          have hlen := hone _ _ _ he
          have := (all_more r _ _ h).1
          simp only [List.length_append, List.length_cons, List.length_nil] at this
          exact ⟨by omega, fun _ _ _ _ => by omega⟩
termination_by l => l.length
decreasing_by simp only [List.length_cons] at *; omega
def headT : Tok := (1, [104], 0, 0, 0, 1)
def arrT : Tok := (9, [], 0, 0, 1, 3)
theorem arr_scan : scanK [104, 58, 45] 0 = ([headT, arrT, endT 3], 0, 0) := by kernel_rfl
/-- P3.1: a query is what may stand behind a head and an arrow. -/
theorem body_same {src : List UInt8} (hl : src.length ≤ 65000) : ((resQry src).2 = (0, 0) ∧ (resQry src).1 ≠ [] ∧ resProg ([104, 58, 45] ++ 10 :: src) = ([(([104], [], 0), (resQry src).1.map (shL 4))], (0, 0))) ∨ ((resQry src).2.1 ≠ 0 ∧ ((resProg ([104, 58, 45] ++ 10 :: src)).2.1 ≠ 0 ∨ (resProg ([104, 58, 45] ++ 10 :: src)).1.length ≠ 1)) := by
  have hlS : src.length ≤ 65536 := by omega
  obtain ⟨J, hJ⟩ : ∃ J, J = [104, 58, 45] ++ 10 :: src := ⟨_, rfl⟩
  rw [← hJ]
  have hlJ : J.length ≤ 65536 := by rw [hJ]; simp; omega
  have hj := scan_join (A := [104, 58, 45]) (B := src) (r := [headT, arrT]) (k := 0) (Nat.zero_le _) (by intro t ht; simp only [List.mem_cons, List.not_mem_nil, or_false] at ht; rcases ht with rfl | rfl <;> decide) arr_scan
  rw [← hJ] at hj
  have hL : (scanF J).1 = headT :: arrT :: (scanF src).1.map (shT 4) := by rw [scanF_is hlJ, scanF_is hlS, hj]; rfl
  have hB : badF J = shE 4 (badF src) := by
    unfold badF
    rw [scanF_is hlJ, scanF_is hlS, hj]
    unfold shF shE
    simp only
    by_cases h0 : (scanK src 0).2.1 = 0
    · rw [if_pos h0, if_pos h0]
    · rw [if_neg h0, if_neg h0]
      refine Prod.ext rfl ?_
      simp only [List.length_cons, List.length_nil]; omega
  obtain ⟨L, hLs⟩ : ∃ L, L = (scanF src).1 := ⟨_, rfl⟩
  obtain ⟨bd, hbd⟩ : ∃ bd, bd = badF src := ⟨_, rfl⟩
  have hP : parseF (fun b l => progD b [] l) J = progD (shE 4 bd) [] (headT :: arrT :: L.map (shT 4)) := by unfold parseF; rw [if_neg (by omega), hL, hB, ← hLs, ← hbd]
  have hQ : parseF queryD src = queryD bd L := by unfold parseF; rw [if_neg (by omega), ← hLs, ← hbd]
  have hsh := body_sh (b := 4) bd L []
  rw [List.map_nil] at hsh
  have hcl : clauseD (shE 4 bd) (headT :: arrT :: L.map (shT 4)) = match bodyD (shE 4 bd) [] (L.map (shT 4)) with | .error e => .error e | .ok (b, p) => .ok ((([104], [], 0), b), p) := by
    unfold clauseD
    rw [atomD_on (show tK headT = 1 from rfl), if_pos (show tK arrT ≠ 5 by decide)]
    simp only
    rw [if_neg (show ¬ tK arrT = 8 by decide), if_pos (show tK arrT = 9 by decide)]
    rfl
  have h0 : tK headT ≠ 0 := by decide
  have hf : ¬ (512 ≤ ([] : List ClauseT).length ∧ tK headT = 1) := by simp
  cases hb : bodyD bd [] L with
  | error e =>
    rw [hb] at hsh
    rw [hsh] at hcl
    right
    have hq : queryD bd L = .error e := by unfold queryD; rw [hb]
    have hp : progD (shE 4 bd) [] (headT :: arrT :: L.map (shT 4)) = .error (shE 4 e) := by unfold progD; exact allD_err h0 hf hcl
    rw [hq] at hQ
    rw [hp] at hP
    constructor
    · rcases resQry_cases src with ⟨e', q1, q2, -⟩ | ⟨a, q1, q3⟩
      · rw [q1]; exact q2
      · rw [hQ] at q3; cases q3
    · left
      rcases resProg_cases J with ⟨e', q1, q2, -⟩ | ⟨a, q1, q3⟩
      · rw [q1]; exact q2
      · rw [hP] at q3; cases q3
  | ok bq =>
    obtain ⟨b, q⟩ := bq
    rw [hb] at hsh
    rw [hsh] at hcl
    simp only [mapR] at hcl
    have hne := body_ne L [] b q hb
    have hp : progD (shE 4 bd) [] (headT :: arrT :: L.map (shT 4)) = allD (shE 4 bd) 512 (clauseD (shE 4 bd)) (fun _ _ _ h => clauseD_len h) ([] ++ [(([104], [], 0), b.map (shL 4))]) (q.map (shT 4)) := by unfold progD; exact allD_on h0 hf hcl
    rw [List.nil_append] at hp
    rw [queryD_ok hb] at hQ
    rw [hp] at hP
    cases q with
    | nil =>
      right
      rw [List.map_nil, allD_nil] at hP
      rw [endD] at hQ
      constructor
      · rcases resQry_cases src with ⟨e', q1, q2, -⟩ | ⟨a, q1, q3⟩
        · rw [q1]; exact q2
        · rw [hQ] at q3; cases q3
      · left
        rcases resProg_cases J with ⟨e', q1, q2, -⟩ | ⟨a, q1, q3⟩
        · rw [q1]; exact q2
        · rw [hP] at q3; cases q3
    | cons t r =>
      rw [endD] at hQ
      by_cases ht : tK t = 0
      · left
        rw [if_pos ht] at hQ
        rw [List.map_cons, allD_end (t := shT 4 t) ht] at hP
        have e1 : resQry src = (b, (0, 0)) := by unfold resQry; rw [hQ]
        have e2 : resProg J = ([(([104], [], 0), b.map (shL 4))], (0, 0)) := by unfold resProg; rw [hP]
        rw [e1, e2]
        exact ⟨rfl, fun h => by have h' : b = [] := h; rw [h'] at hne; simp at hne, rfl⟩
      · right
        rw [if_neg ht] at hQ
        constructor
        · rcases resQry_cases src with ⟨e', q1, q2, -⟩ | ⟨a, q1, q3⟩
          · rw [q1]; exact q2
          · rw [hQ] at q3; cases q3
        · rcases resProg_cases J with ⟨e', q1, q2, -⟩ | ⟨a, q1, q3⟩
          · left; rw [q1]; exact q2
          · right
            rw [hP] at q3
            have := (all_more _ _ _ q3).2 (shT 4 t) (r.map (shT 4)) rfl ht
            rw [q1]
            simp only [List.length_cons, List.length_nil] at this ⊢
            omega
end Edict
