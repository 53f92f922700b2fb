/- PrintSpoilt: print.Program of what is not well. -/
import Derived.Test.YtdaldilmjhdpaaaPoK
namespace Go.Proofs.Ytdaldilmjhdpaaa
open Go Go.Ev Edict
def C_poProgB (vs : List Value) (h : H) (K : Value → H → Prop) : Prop := ∃ (u : U) (v : Value) (p : List Clause), vs = [.agg #[v]] ∧ IsSl u h v p ∧ Rep.wf p ∧ wellW p ≠ 0 ∧ ∀ u' h', Step S0 u h u' h' → K (str []) h'
def G_poProgB : Ctr := fun f vs h K _ => f = 9 ∧ C_data (vI wellW) vs h K
theorem G_poProgB_ok : GOk Try.prog G_poProgB := by
  rintro f vs h K KP ⟨rfl, hC⟩; exact prWell_ok hC
theorem poProgB_ok {vs : List Value} {h : H} {K : Value → H → Prop} {KP : List PanicEntry → H → Prop} (hC : C_poProgB vs h K) : HCX Try.prog 10 vs h K KP := by
  obtain ⟨u, v, p, rfl, hl, hw, hne, hK⟩ := hC
  obtain ⟨la, lc, rfl, -, -⟩ := hl.sl
  refine poProgram_H G_poProgB G_poProgB_ok _ ?_
  have s1 := Step.push0 S0 u h #[.slice la p.length lc] 24
  simp (disch := first | omega | (simp only [e_ssz, e_psz, e_hszs, List.length_cons, List.length_nil]; try omega; done)) only [↓reduceIte, go_sem, poProgram_S, poProgram_E]
  refine effS_call ⟨rfl, ub u h.size 0, p, [.slice la p.length lc], rfl, by rw [rep_list]; exact ⟨_, rfl, hl.mono s1.ge⟩, hw, fun u2 h2 s2 => ⟨by simp (disch := first | omega | (simp only [e_ssz, e_psz, e_hszs, List.length_cons, List.length_nil]; try omega; done)) only [go_sem], ?_⟩⟩
  simp (disch := first | omega | (simp only [e_ssz, e_psz, e_hszs, List.length_cons, List.length_nil]; try omega; done)) only [↓reduceIte, go_sem, vI, eq_false hne]
  exact hK _ _ (s1.trans0 s2)
end Go.Proofs.Ytdaldilmjhdpaaa
