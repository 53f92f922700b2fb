/- PrintSpoilt: spoilt. -/
import Derived.Test.YtdaldilmjhdpaaaPoF
namespace Go.Ev
open Go
def sF : S → S | .seq a _ => a | s => s
def sS : S → S | .seq _ b => b | s => s
end Go.Ev
namespace Go.Proofs.Ytdaldilmjhdpaaa
open Go Go.Ev Edict
abbrev G0 : Ctr := fun _ _ _ _ _ => False
def Kp (u0 : U) (h0 : H) (a : Atom) (vA : Value) (w : Int) (K : Value → H → Prop) : Prop := ∀ u' h' l, Step (OwnB vA) u0 h0 u' h' → Rep.rep u' h' (spoC a w) l → K (.tuple #[.agg l.toArray, .int .i64 (spoW w)]) h'
def pgT : S := sS (sS (sS poSpo_S))
theorem poSpo_cut : poSpo_S = .seq (sF poSpo_S) (.seq (sF (sS poSpo_S)) (.seq (sF (sS (sS poSpo_S))) pgT)) := rfl
structure SpY (u0 : U) (h0 : H) (a : Atom) (xa : Option Addr) (xc p k w : Nat) (σ : Env) (u : U) (h : H) : Prop where
  st : Step S0 u0 h0 u h
  lo : h0.size ≤ p
  e1 : σ 1 = .int .i64 w
  e2 : σ 2 = .pointer (some ⟨p, 0, none⟩)
  e4 : σ 4 = .pointer (some ⟨p + 1, 0, none⟩)
  e6 : σ 6 = .pointer (some ⟨p + 2, 0, none⟩)
  e7 : σ 7 = .pointer (some ⟨p + 3, 0, none⟩)
  B2 : Blk u h p [str a.1, .slice xa a.2.1.length xc, .int .i64 a.2.2, .slice none 0 0]
  B4 : Blk u h (p + 1) [str [], .slice none 0 0, .int .i64 0, .slice none 0 0]
  B6 : Blk u h (p + 2) [.int .i64 4, .int .i64 0, str [88], .int .i64 0]
  B7 : Blk u h (p + 3) [.int .i64 1, str [113], .slice none 0 0, .int .i64 0, .int .i64 0, .int .i64 0, .int .i64 0, str [], .int .i64 0, .int .i64 0, .int .i64 0, str [], .int .i64 0, .int .i64 0]
  oA : Own k u h (.slice xa a.2.1.length xc) a.2.1
  own : ∀ j, OwnB (.slice xa a.2.1.length xc) j → j < h0.size
theorem pg0_ok {K : Value → H → Prop} {KP : List PanicEntry → H → Prop} {u0 : U} {h0 : H} {a : Atom} {xa : Option Addr} {xc p k : Nat} {σ : Env} {u : U} {h : H} (X : SpY u0 h0 a xa xc p k 0 σ u h) (hK : Kp u0 h0 a (.slice xa a.2.1.length xc) 0 K) : wpS G0 pgT (retQ poSpo_E (callK K KP)) σ h := by
  obtain ⟨st, lo, e1, e2, e4, e6, e7, B2, B4, B6, B7, oA, own⟩ := X
  have hm := mlenP
  have b2 := B2.1
  have b4 := B4.1
  have b6 := B6.1
  have b7 := B7.1
  have P2 : Blk u (hset h p 0 (str [81])) p [str [81], .slice xa a.2.1.length xc, .int .i64 a.2.2, .slice none 0 0] := B2.set (i := 0) (v := str [81]) (by simp)
  have sw : Step (fun j => j = p) u h u (hset h p 0 (str [81])) := B2.stepSet
  have P4 := B4.step sw (by omega)
  have p2 := P2.1
  have p4 := P4.1
  have E4 := P4.sets (l := [str [81], .slice xa a.2.1.length xc, .int .i64 a.2.2, .slice none 0 0]) rfl
  have sx := P4.stepSets (l := [str [81], .slice xa a.2.1.length xc, .int .i64 a.2.2, .slice none 0 0]) rfl
  simp (disch := first | omega | (simp only [e_ssz, e_psz, e_hszs, List.length_cons, List.length_nil]; try omega; done)) only [↓reduceIte, go_sem, pgT, sS, poSpo_S, poSpo_E, e1, e2, e4, B2.2.1, B2.2.2.1, B4.2.1, B4.2.2.1, hsets_hsz, P2.at, E4.at]
  have ts := (st.own sw (fun j e => by have e : j = p := e; omega)).own sx (fun j e => by have e : j = p + 1 := e; omega)
  exact hK _ _ [_, _, _, _] (ts.mono (fun _ _ h => h.elim)) (rep_clause.mpr ⟨_, _, rfl, (oA.isSl.mono sw.ge).mono sx.ge, IsSl.nil _ _⟩)
/-! the literals -/
theorem isSl_push1p {α : Type} [Rep α] {u : U} {h : H} {x : α} {cs : List Value} (t : TypeId) (hx : Rep.rep u h x cs) : IsSl (ub u h.size (Rep.sz α)) (h.push (.cells cs.toArray t)) (.slice (some ⟨h.size, 0, none⟩) 1 1) [x] := by
  have hl := Rep.len hx
  have st := Step.push S0 u h cs.toArray t (Rep.sz α)
  refine ⟨_, _, _, rfl, rfl, Nat.le_refl _, by decide, (fun h => by cases h), fun _ => ⟨h.size, 0, rfl, by simp, by simp [ub], by rw [e_hszpe rfl]; simp [hl], fun i y hy => ?_⟩⟩
  match i, hy with
  | 0, hy =>
    cases hy
    rw [hvs_rows (cs := cs) (fun m hm => ?_) hl]
    · exact Rep.mono st.ge hx
    · rw [e_hvpe rfl]; simp
  | i + 1, hy => simp at hy
theorem lit_fin {u0 : U} {h0 : H} {a : Atom} {xa : Option Addr} {xc p k w : Nat} {σ : Env} {u : U} {h M : H} (Y : SpY u0 h0 a xa xc p k w σ u h) (s7 : Step (fun j => j = p + 3) u h u M) (hz : M.size = h.size) (x : Literal) {cells : List Value} (hx : Rep.rep u M x cells) :
    Blk u (hset M p 3 (.slice (some ⟨h.size, 0, none⟩) 1 1)) p [str a.1, .slice xa a.2.1.length xc, .int .i64 a.2.2, .slice (some ⟨h.size, 0, none⟩) 1 1] ∧
    Blk u (hset M p 3 (.slice (some ⟨h.size, 0, none⟩) 1 1)) (p + 1) [str [], .slice none 0 0, .int .i64 0, .slice none 0 0] ∧
    Blk u (hsets (hset M p 3 (.slice (some ⟨h.size, 0, none⟩) 1 1)) (p + 1) 0 [str a.1, .slice xa a.2.1.length xc, .int .i64 a.2.2, .slice (some ⟨h.size, 0, none⟩) 1 1]) (p + 1) [str a.1, .slice xa a.2.1.length xc, .int .i64 a.2.2, .slice (some ⟨h.size, 0, none⟩) 1 1] ∧
    ∃ u' : U, Step S0 u0 h0 u' ((hsets (hset M p 3 (.slice (some ⟨h.size, 0, none⟩) 1 1)) (p + 1) 0 [str a.1, .slice xa a.2.1.length xc, .int .i64 a.2.2, .slice (some ⟨h.size, 0, none⟩) 1 1]).push (.cells cells.toArray 49)) ∧
      Rep.rep u' ((hsets (hset M p 3 (.slice (some ⟨h.size, 0, none⟩) 1 1)) (p + 1) 0 [str a.1, .slice xa a.2.1.length xc, .int .i64 a.2.2, .slice (some ⟨h.size, 0, none⟩) 1 1]).push (.cells cells.toArray 49)) ((a, [x]) : Clause) [str a.1, .slice xa a.2.1.length xc, .int .i64 a.2.2, .slice (some ⟨h.size, 0, none⟩) 1 1] := by
  have lo := Y.lo
  have C2 := Y.B2.step s7 (by omega)
  have C4 := Y.B4.step s7 (by omega)
  have D2 : Blk u (hset M p 3 (.slice (some ⟨h.size, 0, none⟩) 1 1)) p [str a.1, .slice xa a.2.1.length xc, .int .i64 a.2.2, .slice (some ⟨h.size, 0, none⟩) 1 1] := C2.set (i := 3) (v := .slice (some ⟨h.size, 0, none⟩) 1 1) (by simp)
  have s2 : Step (fun j => j = p) u M u (hset M p 3 (.slice (some ⟨h.size, 0, none⟩) 1 1)) := C2.stepSet
  have D4 := C4.step s2 (by omega)
  have E4 := D4.sets (l := [str a.1, .slice xa a.2.1.length xc, .int .i64 a.2.2, .slice (some ⟨h.size, 0, none⟩) 1 1]) rfl
  have s4 := D4.stepSets (l := [str a.1, .slice xa a.2.1.length xc, .int .i64 a.2.2, .slice (some ⟨h.size, 0, none⟩) 1 1]) rfl
  have hsz : (hsets (hset M p 3 (.slice (some ⟨h.size, 0, none⟩) 1 1)) (p + 1) 0 [str a.1, .slice xa a.2.1.length xc, .int .i64 a.2.2, .slice (some ⟨h.size, 0, none⟩) 1 1]).size = h.size := by rw [hsets_size, e_ssz, hz]
  refine ⟨D2, D4, E4, ?_⟩
  have t := ((Y.st.own s7 (fun j e => by have e : j = p + 3 := e; omega)).own s2 (fun j e => by have e : j = p := e; omega)).own s4 (fun j e => by have e : j = p + 1 := e; omega)
  generalize hW : hsets (hset M p 3 (.slice (some ⟨h.size, 0, none⟩) 1 1)) (p + 1) 0 [str a.1, .slice xa a.2.1.length xc, .int .i64 a.2.2, .slice (some ⟨h.size, 0, none⟩) 1 1] = W at *
  have hx2 := Rep.mono s4.ge (Rep.mono s2.ge hx)
  have sp := Step.push S0 u W cells.toArray 49 (Rep.sz Literal)
  have iL := isSl_push1p 49 hx2
  have iA := (((Y.oA.isSl.mono s7.ge).mono s2.ge).mono s4.ge).mono sp.ge
  refine ⟨_, t.trans0 sp, rep_clause.mpr ⟨_, _, rfl, iA, ?_⟩⟩
  rw [hsz] at iL ⊢
  exact iL
theorem sets9 {u : U} {h : H} {b : Nat} {x0 x1 x2 x3 x4 x5 x6 x7 x8 x9 x10 x11 x12 x13 y0 y1 y2 y3 : Value} (B : Blk u h b [x0, x1, x2, x3, x4, x5, x6, x7, x8, x9, x10, x11, x12, x13]) : Blk u (hsets h b 5 [y0, y1, y2, y3]) b [x0, x1, x2, x3, x4, y0, y1, y2, y3, x9, x10, x11, x12, x13] :=
  (((B.set (i := 5) (v := y0) (by simp)).set (i := 6) (v := y1) (by simp)).set (i := 7) (v := y2) (by simp)).set (i := 8) (v := y3) (by simp)
theorem step9 {u : U} {h : H} {b : Nat} {cs : List Value} {y0 y1 y2 y3 : Value} (B : Blk u h b cs) (hc : cs.length = 14) : Step (fun j => j = b) u h u (hsets h b 5 [y0, y1, y2, y3]) := Step.sets u h _ rfl (by rw [B.2.2.2.1]; exact Nat.zero_le _) (by rw [B.2.1, hc]; exact (by decide : 5 + 4 ≤ 14))
theorem pg5_ok {K : Value → H → Prop} {KP : List PanicEntry → H → Prop} {u0 : U} {h0 : H} {a : Atom} {xa : Option Addr} {xc p k : Nat} {σ : Env} {u : U} {h : H} (Y : SpY u0 h0 a xa xc p k 5 σ u h) (hK : Kp u0 h0 a (.slice xa a.2.1.length xc) 5 K) : wpS G0 pgT (retQ poSpo_E (callK K KP)) σ h := by
  have Y' := Y
  obtain ⟨st, lo, e1, e2, e4, e6, e7, B2, B4, B6, B7, oA, own⟩ := Y'
  have hm := mlenP
  have b2 := B2.1
  have b4 := B4.1
  have b6 := B6.1
  have b7 := B7.1
  have P7 : Blk u (hset h (p + 3) 0 (.int .i64 0)) (p + 3) [.int .i64 0, str [113], .slice none 0 0, .int .i64 0, .int .i64 0, .int .i64 0, .int .i64 0, str [], .int .i64 0, .int .i64 0, .int .i64 0, str [], .int .i64 0, .int .i64 0] := B7.set (i := 0) (v := .int .i64 0) (by simp)
  have s7 : Step (fun j => j = p + 3) u h u (hset h (p + 3) 0 (.int .i64 0)) := B7.stepSet
  obtain ⟨D2, D4, E4, u', ts, hr⟩ := lit_fin Y s7 (by simp only [e_ssz]) (0, aQ, 0, zT, zT, 0) (cells := [.int .i64 0, str [113], .slice none 0 0, .int .i64 0, .int .i64 0, .int .i64 0, .int .i64 0, str [], .int .i64 0, .int .i64 0, .int .i64 0, str [], .int .i64 0, .int .i64 0]) (rep_literal.mpr ⟨_, rfl, IsSl.nil _ _⟩)
  have d2 := D2.1
  have d4 := D4.1
  have e4' := E4.1
  have p7 := P7.1
  simp (disch := first | omega | (simp only [e_ssz, e_psz, e_hszs, List.length_cons, List.length_nil]; try omega; done)) only [↓reduceIte, go_sem, pgT, sS, poSpo_S, poSpo_E, e1, e2, e4, e7, B2.2.1, B2.2.2.1, B4.2.1, B4.2.2.1, B7.2.1, B7.2.2.1, P7.at, P7.2.1, D2.at, E4.at, E4.2.1]
  exact hK _ _ [_, _, _, _] (ts.mono (fun _ _ h => h.elim)) hr
theorem pg6_ok {K : Value → H → Prop} {KP : List PanicEntry → H → Prop} {u0 : U} {h0 : H} {a : Atom} {xa : Option Addr} {xc p k : Nat} {σ : Env} {u : U} {h : H} (Y : SpY u0 h0 a xa xc p k 6 σ u h) (hK : Kp u0 h0 a (.slice xa a.2.1.length xc) 6 K) : wpS G0 pgT (retQ poSpo_E (callK K KP)) σ h := by
  have Y' := Y
  obtain ⟨st, lo, e1, e2, e4, e6, e7, B2, B4, B6, B7, oA, own⟩ := Y'
  have hm := mlenP
  have b2 := B2.1
  have b4 := B4.1
  have b6 := B6.1
  have b7 := B7.1
  have P7 : Blk u (hset h (p + 3) 4 (.int .i64 1)) (p + 3) [.int .i64 1, str [113], .slice none 0 0, .int .i64 0, .int .i64 1, .int .i64 0, .int .i64 0, str [], .int .i64 0, .int .i64 0, .int .i64 0, str [], .int .i64 0, .int .i64 0] := B7.set (i := 4) (v := .int .i64 1) (by simp)
  have s7 : Step (fun j => j = p + 3) u h u (hset h (p + 3) 4 (.int .i64 1)) := B7.stepSet
  obtain ⟨D2, D4, E4, u', ts, hr⟩ := lit_fin Y s7 (by simp only [e_ssz]) (1, aQ, 1, zT, zT, 0) (cells := [.int .i64 1, str [113], .slice none 0 0, .int .i64 0, .int .i64 1, .int .i64 0, .int .i64 0, str [], .int .i64 0, .int .i64 0, .int .i64 0, str [], .int .i64 0, .int .i64 0]) (rep_literal.mpr ⟨_, rfl, IsSl.nil _ _⟩)
  have d2 := D2.1
  have d4 := D4.1
  have e4' := E4.1
  have p7 := P7.1
  simp (disch := first | omega | (simp only [e_ssz, e_psz, e_hszs, List.length_cons, List.length_nil]; try omega; done)) only [↓reduceIte, go_sem, pgT, sS, poSpo_S, poSpo_E, e1, e2, e4, e7, B2.2.1, B2.2.2.1, B4.2.1, B4.2.2.1, B7.2.1, B7.2.2.1, P7.at, P7.2.1, D2.at, E4.at, E4.2.1]
  exact hK _ _ [_, _, _, _] (ts.mono (fun _ _ h => h.elim)) hr
theorem pg7_ok {K : Value → H → Prop} {KP : List PanicEntry → H → Prop} {u0 : U} {h0 : H} {a : Atom} {xa : Option Addr} {xc p k : Nat} {σ : Env} {u : U} {h : H} (Y : SpY u0 h0 a xa xc p k 7 σ u h) (hK : Kp u0 h0 a (.slice xa a.2.1.length xc) 7 K) : wpS G0 pgT (retQ poSpo_E (callK K KP)) σ h := by
  have Y' := Y
  obtain ⟨st, lo, e1, e2, e4, e6, e7, B2, B4, B6, B7, oA, own⟩ := Y'
  have hm := mlenP
  have b2 := B2.1
  have b4 := B4.1
  have b6 := B6.1
  have b7 := B7.1
  have P7 : Blk u (hsets h (p + 3) 0 [.int .i64 3, str [], .slice none 0 0, .int .i64 0, .int .i64 7, .int .i64 4, .int .i64 0, str [88], .int .i64 0, .int .i64 4, .int .i64 0, str [88], .int .i64 0, .int .i64 0]) (p + 3) [.int .i64 3, str [], .slice none 0 0, .int .i64 0, .int .i64 7, .int .i64 4, .int .i64 0, str [88], .int .i64 0, .int .i64 4, .int .i64 0, str [88], .int .i64 0, .int .i64 0] := B7.sets (l := [.int .i64 3, str [], .slice none 0 0, .int .i64 0, .int .i64 7, .int .i64 4, .int .i64 0, str [88], .int .i64 0, .int .i64 4, .int .i64 0, str [88], .int .i64 0, .int .i64 0]) rfl
  have s7 : Step (fun j => j = p + 3) u h u (hsets h (p + 3) 0 [.int .i64 3, str [], .slice none 0 0, .int .i64 0, .int .i64 7, .int .i64 4, .int .i64 0, str [88], .int .i64 0, .int .i64 4, .int .i64 0, str [88], .int .i64 0, .int .i64 0]) := B7.stepSets (l := [.int .i64 3, str [], .slice none 0 0, .int .i64 0, .int .i64 7, .int .i64 4, .int .i64 0, str [88], .int .i64 0, .int .i64 4, .int .i64 0, str [88], .int .i64 0, .int .i64 0]) rfl
  obtain ⟨D2, D4, E4, u', ts, hr⟩ := lit_fin Y s7 (by simp only [hsets_size]) (3, zA, 7, vX, vX, 0) (cells := [.int .i64 3, str [], .slice none 0 0, .int .i64 0, .int .i64 7, .int .i64 4, .int .i64 0, str [88], .int .i64 0, .int .i64 4, .int .i64 0, str [88], .int .i64 0, .int .i64 0]) (rep_literal.mpr ⟨_, rfl, IsSl.nil _ _⟩)
  have d2 := D2.1
  have d4 := D4.1
  have e4' := E4.1
  have p7 := P7.1
  simp (disch := first | omega | (simp only [e_ssz, e_psz, e_hszs, List.length_cons, List.length_nil]; try omega; done)) only [↓reduceIte, go_sem, pgT, sS, poSpo_S, poSpo_E, e1, e2, e4, e6, e7, B2.2.1, B2.2.2.1, B4.2.1, B4.2.2.1, B6.at, B6.2.1, B7.2.1, B7.2.2.1, P7.at, P7.2.1, hsets_size, hsets_hsz, hsets_hfr, D2.at, E4.at, E4.2.1]
  exact hK _ _ [_, _, _, _] (ts.mono (fun _ _ h => h.elim)) hr
theorem pg8_ok {K : Value → H → Prop} {KP : List PanicEntry → H → Prop} {u0 : U} {h0 : H} {a : Atom} {xa : Option Addr} {xc p k : Nat} {σ : Env} {u : U} {h : H} (Y : SpY u0 h0 a xa xc p k 8 σ u h) (hK : Kp u0 h0 a (.slice xa a.2.1.length xc) 8 K) : wpS G0 pgT (retQ poSpo_E (callK K KP)) σ h := by
  have Y' := Y
  obtain ⟨st, lo, e1, e2, e4, e6, e7, B2, B4, B6, B7, oA, own⟩ := Y'
  have hm := mlenP
  have b2 := B2.1
  have b4 := B4.1
  have b6 := B6.1
  have b7 := B7.1
  have P7 : Blk u (hsets h (p + 3) 0 [.int .i64 3, str [113], .slice none 0 0, .int .i64 0, .int .i64 1, .int .i64 4, .int .i64 0, str [88], .int .i64 0, .int .i64 4, .int .i64 0, str [88], .int .i64 0, .int .i64 0]) (p + 3) [.int .i64 3, str [113], .slice none 0 0, .int .i64 0, .int .i64 1, .int .i64 4, .int .i64 0, str [88], .int .i64 0, .int .i64 4, .int .i64 0, str [88], .int .i64 0, .int .i64 0] := B7.sets (l := [.int .i64 3, str [113], .slice none 0 0, .int .i64 0, .int .i64 1, .int .i64 4, .int .i64 0, str [88], .int .i64 0, .int .i64 4, .int .i64 0, str [88], .int .i64 0, .int .i64 0]) rfl
  have s7 : Step (fun j => j = p + 3) u h u (hsets h (p + 3) 0 [.int .i64 3, str [113], .slice none 0 0, .int .i64 0, .int .i64 1, .int .i64 4, .int .i64 0, str [88], .int .i64 0, .int .i64 4, .int .i64 0, str [88], .int .i64 0, .int .i64 0]) := B7.stepSets (l := [.int .i64 3, str [113], .slice none 0 0, .int .i64 0, .int .i64 1, .int .i64 4, .int .i64 0, str [88], .int .i64 0, .int .i64 4, .int .i64 0, str [88], .int .i64 0, .int .i64 0]) rfl
  obtain ⟨D2, D4, E4, u', ts, hr⟩ := lit_fin Y s7 (by simp only [hsets_size]) (3, aQ, 1, vX, vX, 0) (cells := [.int .i64 3, str [113], .slice none 0 0, .int .i64 0, .int .i64 1, .int .i64 4, .int .i64 0, str [88], .int .i64 0, .int .i64 4, .int .i64 0, str [88], .int .i64 0, .int .i64 0]) (rep_literal.mpr ⟨_, rfl, IsSl.nil _ _⟩)
  have d2 := D2.1
  have d4 := D4.1
  have e4' := E4.1
  have p7 := P7.1
  simp (disch := first | omega | (simp only [e_ssz, e_psz, e_hszs, List.length_cons, List.length_nil]; try omega; done)) only [↓reduceIte, go_sem, pgT, sS, poSpo_S, poSpo_E, e1, e2, e4, e6, e7, B2.2.1, B2.2.2.1, B4.2.1, B4.2.2.1, B6.at, B6.2.1, B7.2.1, B7.2.2.1, P7.at, P7.2.1, hsets_size, hsets_hsz, hsets_hfr, D2.at, E4.at, E4.2.1]
  exact hK _ _ [_, _, _, _] (ts.mono (fun _ _ h => h.elim)) hr
theorem pg9_ok {K : Value → H → Prop} {KP : List PanicEntry → H → Prop} {u0 : U} {h0 : H} {a : Atom} {xa : Option Addr} {xc p k : Nat} {σ : Env} {u : U} {h : H} (Y : SpY u0 h0 a xa xc p k 9 σ u h) (hK : Kp u0 h0 a (.slice xa a.2.1.length xc) 9 K) : wpS G0 pgT (retQ poSpo_E (callK K KP)) σ h := by
  have Y' := Y
  obtain ⟨st, lo, e1, e2, e4, e6, e7, B2, B4, B6, B7, oA, own⟩ := Y'
  have hm := mlenP
  have b2 := B2.1
  have b4 := B4.1
  have b6 := B6.1
  have b7 := B7.1
  have P7 : Blk u (hsets h (p + 3) 5 [.int .i64 1, .int .i64 0, str [], .int .i64 0]) (p + 3) [.int .i64 1, str [113], .slice none 0 0, .int .i64 0, .int .i64 0, .int .i64 1, .int .i64 0, str [], .int .i64 0, .int .i64 0, .int .i64 0, str [], .int .i64 0, .int .i64 0] := sets9 B7
  have s7 : Step (fun j => j = p + 3) u h u (hsets h (p + 3) 5 [.int .i64 1, .int .i64 0, str [], .int .i64 0]) := step9 B7 rfl
  obtain ⟨D2, D4, E4, u', ts, hr⟩ := lit_fin Y s7 (by simp only [hsets_size]) (1, aQ, 0, (1, 0, [], 0), zT, 0) (cells := [.int .i64 1, str [113], .slice none 0 0, .int .i64 0, .int .i64 0, .int .i64 1, .int .i64 0, str [], .int .i64 0, .int .i64 0, .int .i64 0, str [], .int .i64 0, .int .i64 0]) (rep_literal.mpr ⟨_, rfl, IsSl.nil _ _⟩)
  have d2 := D2.1
  have d4 := D4.1
  have e4' := E4.1
  have p7 := P7.1
  simp (disch := first | omega | (simp only [e_ssz, e_psz, e_hszs, List.length_cons, List.length_nil]; try omega; done)) only [↓reduceIte, go_sem, pgT, sS, poSpo_S, poSpo_E, e1, e2, e4, e7, B2.2.1, B2.2.2.1, B4.2.1, B4.2.2.1, B7.2.1, B7.2.2.1, P7.at, P7.2.1, hsets_size, hsets_hsz, hsets_hfr, D2.at, E4.at, E4.2.1]
  exact hK _ _ [_, _, _, _] (ts.mono (fun _ _ h => h.elim)) hr
theorem pg10_ok {K : Value → H → Prop} {KP : List PanicEntry → H → Prop} {u0 : U} {h0 : H} {a : Atom} {xa : Option Addr} {xc p k : Nat} {σ : Env} {u : U} {h : H} (Y : SpY u0 h0 a xa xc p k 10 σ u h) (hK : Kp u0 h0 a (.slice xa a.2.1.length xc) 10 K) : wpS G0 pgT (retQ poSpo_E (callK K KP)) σ h := by
  have Y' := Y
  obtain ⟨st, lo, e1, e2, e4, e6, e7, B2, B4, B6, B7, oA, own⟩ := Y'
  have hm := mlenP
  have b2 := B2.1
  have b4 := B4.1
  have b6 := B6.1
  have b7 := B7.1
  have P7 : Blk u (hsets h (p + 3) 0 [.int .i64 3, str [], .slice none 0 0, .int .i64 0, .int .i64 1, .int .i64 4, .int .i64 0, str [88], .int .i64 0, .int .i64 2, .int .i64 0, str [110, 111, 116], .int .i64 0, .int .i64 0]) (p + 3) [.int .i64 3, str [], .slice none 0 0, .int .i64 0, .int .i64 1, .int .i64 4, .int .i64 0, str [88], .int .i64 0, .int .i64 2, .int .i64 0, str [110, 111, 116], .int .i64 0, .int .i64 0] := B7.sets (l := [.int .i64 3, str [], .slice none 0 0, .int .i64 0, .int .i64 1, .int .i64 4, .int .i64 0, str [88], .int .i64 0, .int .i64 2, .int .i64 0, str [110, 111, 116], .int .i64 0, .int .i64 0]) rfl
  have s7 : Step (fun j => j = p + 3) u h u (hsets h (p + 3) 0 [.int .i64 3, str [], .slice none 0 0, .int .i64 0, .int .i64 1, .int .i64 4, .int .i64 0, str [88], .int .i64 0, .int .i64 2, .int .i64 0, str [110, 111, 116], .int .i64 0, .int .i64 0]) := B7.stepSets (l := [.int .i64 3, str [], .slice none 0 0, .int .i64 0, .int .i64 1, .int .i64 4, .int .i64 0, str [88], .int .i64 0, .int .i64 2, .int .i64 0, str [110, 111, 116], .int .i64 0, .int .i64 0]) rfl
  obtain ⟨D2, D4, E4, u', ts, hr⟩ := lit_fin Y s7 (by simp only [hsets_size]) (3, zA, 1, vX, (2, 0, [110, 111, 116], 0), 0) (cells := [.int .i64 3, str [], .slice none 0 0, .int .i64 0, .int .i64 1, .int .i64 4, .int .i64 0, str [88], .int .i64 0, .int .i64 2, .int .i64 0, str [110, 111, 116], .int .i64 0, .int .i64 0]) (rep_literal.mpr ⟨_, rfl, IsSl.nil _ _⟩)
  have d2 := D2.1
  have d4 := D4.1
  have e4' := E4.1
  have p7 := P7.1
  simp (disch := first | omega | (simp only [e_ssz, e_psz, e_hszs, List.length_cons, List.length_nil]; try omega; done)) only [↓reduceIte, go_sem, pgT, sS, poSpo_S, poSpo_E, e1, e2, e4, e6, e7, B2.2.1, B2.2.2.1, B4.2.1, B4.2.2.1, B6.at, B6.2.1, B7.2.1, B7.2.2.1, P7.at, P7.2.1, hsets_size, hsets_hsz, hsets_hfr, D2.at, E4.at, E4.2.1]
  exact hK _ _ [_, _, _, _] (ts.mono (fun _ _ h => h.elim)) hr
theorem pg11_ok {K : Value → H → Prop} {KP : List PanicEntry → H → Prop} {u0 : U} {h0 : H} {a : Atom} {xa : Option Addr} {xc p k : Nat} {σ : Env} {u : U} {h : H} (Y : SpY u0 h0 a xa xc p k 11 σ u h) (hK : Kp u0 h0 a (.slice xa a.2.1.length xc) 11 K) : wpS G0 pgT (retQ poSpo_E (callK K KP)) σ h := by
  have Y' := Y
  obtain ⟨st, lo, e1, e2, e4, e6, e7, B2, B4, B6, B7, oA, own⟩ := Y'
  have hm := mlenP
  have b2 := B2.1
  have b4 := B4.1
  have b6 := B6.1
  have b7 := B7.1
  have P7 : Blk u (hsets h (p + 3) 0 [.int .i64 2, str [110, 111, 116], .slice none 0 0, .int .i64 0, .int .i64 0, .int .i64 0, .int .i64 0, str [], .int .i64 0, .int .i64 0, .int .i64 0, str [], .int .i64 0, .int .i64 0]) (p + 3) [.int .i64 2, str [110, 111, 116], .slice none 0 0, .int .i64 0, .int .i64 0, .int .i64 0, .int .i64 0, str [], .int .i64 0, .int .i64 0, .int .i64 0, str [], .int .i64 0, .int .i64 0] := B7.sets (l := [.int .i64 2, str [110, 111, 116], .slice none 0 0, .int .i64 0, .int .i64 0, .int .i64 0, .int .i64 0, str [], .int .i64 0, .int .i64 0, .int .i64 0, str [], .int .i64 0, .int .i64 0]) rfl
  have s7 : Step (fun j => j = p + 3) u h u (hsets h (p + 3) 0 [.int .i64 2, str [110, 111, 116], .slice none 0 0, .int .i64 0, .int .i64 0, .int .i64 0, .int .i64 0, str [], .int .i64 0, .int .i64 0, .int .i64 0, str [], .int .i64 0, .int .i64 0]) := B7.stepSets (l := [.int .i64 2, str [110, 111, 116], .slice none 0 0, .int .i64 0, .int .i64 0, .int .i64 0, .int .i64 0, str [], .int .i64 0, .int .i64 0, .int .i64 0, str [], .int .i64 0, .int .i64 0]) rfl
  obtain ⟨D2, D4, E4, u', ts, hr⟩ := lit_fin Y s7 (by simp only [hsets_size]) (2, ([110, 111, 116], [], 0), 0, zT, zT, 0) (cells := [.int .i64 2, str [110, 111, 116], .slice none 0 0, .int .i64 0, .int .i64 0, .int .i64 0, .int .i64 0, str [], .int .i64 0, .int .i64 0, .int .i64 0, str [], .int .i64 0, .int .i64 0]) (rep_literal.mpr ⟨_, rfl, IsSl.nil _ _⟩)
  have d2 := D2.1
  have d4 := D4.1
  have e4' := E4.1
  have p7 := P7.1
  simp (disch := first | omega | (simp only [e_ssz, e_psz, e_hszs, List.length_cons, List.length_nil]; try omega; done)) only [↓reduceIte, go_sem, pgT, sS, poSpo_S, poSpo_E, e1, e2, e4, e7, B2.2.1, B2.2.2.1, B4.2.1, B4.2.2.1, B7.2.1, B7.2.2.1, P7.at, P7.2.1, hsets_size, hsets_hsz, hsets_hfr, D2.at, E4.at, E4.2.1]
  exact hK _ _ [_, _, _, _] (ts.mono (fun _ _ h => h.elim)) hr
end Go.Proofs.Ytdaldilmjhdpaaa
