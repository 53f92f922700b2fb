/- PrintSpoilt: spoilt's ways 2 and 3. -/
import Derived.Test.YtdaldilmjhdpaaaPoG
namespace Go.Proofs.Ytdaldilmjhdpaaa
open Go Go.Ev Edict
theorem arg_fin {u0 : U} {h0 : H} {a : Atom} {xa : Option Addr} {xc p k w : Nat} {σ : Env} {u : U} {h : H} (Y : SpY u0 h0 a xa xc p k w σ u h) (t : Term) {cells : List Value} (hx : Rep.rep u h t cells) :
    Blk u (hset h p 1 (.slice (some ⟨h.size, 0, none⟩) 1 1)) p [str a.1, .slice (some ⟨h.size, 0, none⟩) 1 1, .int .i64 a.2.2, .slice none 0 0] ∧
    Blk u (hset h p 1 (.slice (some ⟨h.size, 0, none⟩) 1 1)) (p + 1) [str [], .slice none 0 0, .int .i64 0, .slice none 0 0] ∧
    Blk u (hsets (hset h p 1 (.slice (some ⟨h.size, 0, none⟩) 1 1)) (p + 1) 0 [str a.1, .slice (some ⟨h.size, 0, none⟩) 1 1, .int .i64 a.2.2, .slice none 0 0]) (p + 1) [str a.1, .slice (some ⟨h.size, 0, none⟩) 1 1, .int .i64 a.2.2, .slice none 0 0] ∧
    ∃ u' : U, Step S0 u0 h0 u' ((hsets (hset h p 1 (.slice (some ⟨h.size, 0, none⟩) 1 1)) (p + 1) 0 [str a.1, .slice (some ⟨h.size, 0, none⟩) 1 1, .int .i64 a.2.2, .slice none 0 0]).push (.cells cells.toArray 43)) ∧
      Rep.rep u' ((hsets (hset h p 1 (.slice (some ⟨h.size, 0, none⟩) 1 1)) (p + 1) 0 [str a.1, .slice (some ⟨h.size, 0, none⟩) 1 1, .int .i64 a.2.2, .slice none 0 0]).push (.cells cells.toArray 43)) (((a.1, [t], a.2.2), []) : Clause) [str a.1, .slice (some ⟨h.size, 0, none⟩) 1 1, .int .i64 a.2.2, .slice none 0 0] := by
  have lo := Y.lo
  have D2 : Blk u (hset h p 1 (.slice (some ⟨h.size, 0, none⟩) 1 1)) p [str a.1, .slice (some ⟨h.size, 0, none⟩) 1 1, .int .i64 a.2.2, .slice none 0 0] := Y.B2.set (i := 1) (v := .slice (some ⟨h.size, 0, none⟩) 1 1) (by simp)
  have s2 : Step (fun j => j = p) u h u (hset h p 1 (.slice (some ⟨h.size, 0, none⟩) 1 1)) := Y.B2.stepSet
  have D4 := Y.B4.step s2 (by omega)
  have E4 := D4.sets (l := [str a.1, .slice (some ⟨h.size, 0, none⟩) 1 1, .int .i64 a.2.2, .slice none 0 0]) rfl
  have s4 := D4.stepSets (l := [str a.1, .slice (some ⟨h.size, 0, none⟩) 1 1, .int .i64 a.2.2, .slice none 0 0]) rfl
  have hsz : (hsets (hset h p 1 (.slice (some ⟨h.size, 0, none⟩) 1 1)) (p + 1) 0 [str a.1, .slice (some ⟨h.size, 0, none⟩) 1 1, .int .i64 a.2.2, .slice none 0 0]).size = h.size := by rw [hsets_size, e_ssz]
  refine ⟨D2, D4, E4, ?_⟩
  have ts := (Y.st.own s2 (fun j e => by have e : j = p := e; omega)).own s4 (fun j e => by have e : j = p + 1 := e; omega)
  generalize hW : hsets (hset h p 1 (.slice (some ⟨h.size, 0, none⟩) 1 1)) (p + 1) 0 [str a.1, .slice (some ⟨h.size, 0, none⟩) 1 1, .int .i64 a.2.2, .slice none 0 0] = W at *
  have hx2 := Rep.mono s4.ge (Rep.mono s2.ge hx)
  have sp := Step.push S0 u W cells.toArray 43 (Rep.sz Term)
  have iL := isSl_push1p 43 hx2
  refine ⟨_, ts.trans0 sp, rep_clause.mpr ⟨_, _, rfl, ?_, IsSl.nil _ _⟩⟩
  rw [hsz] at iL ⊢
  exact iL
theorem pg2_ok {K : Value → H → Prop} {KP : List PanicEntry → H → Prop} {u0 : U} {h0 : H} {a : Atom} {xa : Option Addr} {xc p k : Nat} {σ : Env} {u : U} {h : H} (Y : SpY u0 h0 a xa xc p k 2 σ u h) (hK : Kp u0 h0 a (.slice xa a.2.1.length xc) 2 K) : wpS G0 pgT (retQ poSpo_E (callK K KP)) σ h := by
  have Y' := Y
  obtain ⟨st, lo, e1, e2, e4, e6, e7, B2, B4, B6, B7, oA, own⟩ := Y'
  have hm := mlenP
  have b2 := B2.1
  have b4 := B4.1
  obtain ⟨D2, D4, E4, u', ts, hr⟩ := arg_fin Y zT (cells := [.int .i64 0, .int .i64 0, str [], .int .i64 0]) (rep_term.mpr rfl)
  have d2 := D2.1
  have d4 := D4.1
  have e4' := E4.1
  simp (disch := first | omega | (simp only [e_ssz, e_psz, e_hszs, List.length_cons, List.length_nil]; try omega; done)) only [↓reduceIte, go_sem, pgT, sS, poSpo_S, poSpo_E, e1, e2, e4, B2.2.1, B2.2.2.1, B4.2.1, B4.2.2.1, D2.at, E4.at, E4.2.1]
  exact hK _ _ [_, _, _, _] (ts.mono (fun _ _ h => h.elim)) hr
theorem pg3_ok {K : Value → H → Prop} {KP : List PanicEntry → H → Prop} {u0 : U} {h0 : H} {a : Atom} {xa : Option Addr} {xc p k : Nat} {σ : Env} {u : U} {h : H} (Y : SpY u0 h0 a xa xc p k 3 σ u h) (hK : Kp u0 h0 a (.slice xa a.2.1.length xc) 3 K) : wpS G0 pgT (retQ poSpo_E (callK K KP)) σ h := by
  have Y' := Y
  obtain ⟨st, lo, e1, e2, e4, e6, e7, B2, B4, B6, B7, oA, own⟩ := Y'
  have hm := mlenP
  have b2 := B2.1
  have b4 := B4.1
  obtain ⟨D2, D4, E4, u', ts, hr⟩ := arg_fin Y (4, 1, [88], 0) (cells := [.int .i64 4, .int .i64 1, str [88], .int .i64 0]) (rep_term.mpr rfl)
  have d2 := D2.1
  have d4 := D4.1
  have e4' := E4.1
  simp (disch := first | omega | (simp only [e_ssz, e_psz, e_hszs, List.length_cons, List.length_nil]; try omega; done)) only [↓reduceIte, go_sem, pgT, sS, poSpo_S, poSpo_E, e1, e2, e4, B2.2.1, B2.2.2.1, B4.2.1, B4.2.2.1, D2.at, E4.at, E4.2.1]
  exact hK _ _ [_, _, _, _] (ts.mono (fun _ _ h => h.elim)) hr
end Go.Proofs.Ytdaldilmjhdpaaa
