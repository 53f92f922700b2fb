/- CoreRefuses: the clause that may not be. -/
import Derived.Test.YtkobamedfbgjbaaKlRe
import Derived.Test.YtkobamedfbgjbaaKrS
import Derived.Test.YtkobamedfbgjbaaKcQ
namespace Go.Ev
open Go Rep
theorem Blk.new {u : U} {h : H} (l : List Value) (t : TypeId) : Blk (ub u h.size 0) (h.push (.cells l.toArray t)) h.size l :=
  ⟨by simp, e_hszpe rfl, e_hfrpe rfl, by simp [ub], fun i v hv => by rw [e_hvpe rfl, List.getD_eq_getElem?_getD, hv]; rfl⟩
theorem Step.own {S : Nat → Prop} {u u1 u2 : U} {h h1 h2 : H} (s : Step S0 u h u1 h1) (t : Step S u1 h1 u2 h2) (hn : ∀ j, S j → h.size ≤ j) : Step S0 u h u2 h2 := s.trans t (fun j hj e => absurd (hn j e) (by omega))
theorem isSl_push1 {α : Type} [Rep α] {u : U} {h : H} {x : α} {cs : List Value} (t : TypeId) (hx : rep u h x cs) : IsSl (ub u h.size (sz α)) (h.push (.cells cs.toArray t)) (.slice (some ⟨h.size, 0, none⟩) 1 1) [x] := by
  have hl := Rep.len hx
  have st := Step.push S0 u h cs.toArray t (sz α)
  refine ⟨_, _, _, rfl, rfl, Nat.le_refl _, by decide, (fun h => by cases h), fun _ => ⟨h.size, 0, rfl, by simp, by simp [ub], by rw [e_hszpe rfl]; simp [hl], fun i y hy => ?_⟩⟩
  match i, hy with
  | 0, hy =>
    cases hy
    rw [hvs_rows (cs := cs) (fun m hm => ?_) hl]
    · exact Rep.mono st.ge hx
    · rw [e_hvpe rfl]; simp
  | i + 1, hy => simp at hy
theorem isSl_push2 {α : Type} [Rep α] {u : U} {h : H} {x y : α} {cs ds : List Value} (t : TypeId) (hx : rep u h x cs) (hy : rep u h y ds) : IsSl (ub u h.size (2 * sz α)) (h.push (.cells (cs ++ ds).toArray t)) (.slice (some ⟨h.size, 0, none⟩) 2 2) [x, y] := by
  have hl := Rep.len hx
  have hl2 := Rep.len hy
  have st := Step.push S0 u h (cs ++ ds).toArray t (2 * sz α)
  refine ⟨_, _, _, rfl, rfl, Nat.le_refl _, by decide, (fun h => by cases h), fun _ => ⟨h.size, 0, rfl, by simp, by simp [ub], by rw [e_hszpe rfl]; simp [hl, hl2]; omega, fun i z hz => ?_⟩⟩
  match i, hz with
  | 0, hz =>
    cases hz
    rw [hvs_rows (cs := cs) (fun m hm => ?_) hl]
    · exact Rep.mono st.ge hx
    · rw [e_hvpe rfl, List.getD_eq_getElem?_getD, List.getElem?_append_left (by omega), List.getD_eq_getElem?_getD]; simp
  | 1, hz =>
    cases hz
    rw [hvs_rows (cs := ds) (fun m hm => ?_) hl2]
    · exact Rep.mono st.ge hy
    · rw [e_hvpe rfl, List.getD_eq_getElem?_getD, List.getElem?_append_right (by omega), List.getD_eq_getElem?_getD]
      rw [show 0 + 1 * sz α + m - cs.length = m by omega]
  | i + 2, hz => simp at hz
end Go.Ev
namespace Go.Proofs.Ytkobamedfbgjbaa
open Go Go.Ev Edict
def Ks (u0 : U) (h0 : H) (w a b : Int) (K : Value → H → Prop) : Prop := ∀ u' h' l, Step S0 u0 h0 u' h' → Rep.rep u' h' (spoilC w a b) l → K (.tuple #[.agg l.toArray, .int .i64 (spoilW w), .int .i64 (spoilO w a b)]) h'
def C_spoil (vs : List Value) (h : H) (K : Value → H → Prop) : Prop := ∃ (u : U) (w a b : Int), vs = [.int .i64 w, .int .i64 a, .int .i64 b] ∧ 0 ≤ w ∧ w < 6 ∧ Ks u h w a b K
def spT : S := sS (sS (sS (sS klSpoiler_S)))
theorem klSpoiler_cut : klSpoiler_S = .seq (sF klSpoiler_S) (.seq (sF (sS klSpoiler_S)) (.seq (sF (sS (sS klSpoiler_S))) (.seq (sF (sS (sS (sS klSpoiler_S)))) spT))) := rfl
abbrev G0 : Ctr := fun _ _ _ _ _ => False
/-- What stands ready. -/
structure SpX (u0 : U) (h0 : H) (a b : Int) (p : Nat) (c : Option Addr) (σ : Env) (u : U) (h : H) : Prop where
  st : Step S0 u0 h0 u h
  lo : h0.size ≤ p
  e1 : σ 1 = .int .i64 a
  e2 : σ 2 = .int .i64 b
  e6 : σ 6 = .pointer (some ⟨p, 0, none⟩)
  e9 : σ 9 = .pointer (some ⟨p + 1, 0, none⟩)
  e10 : σ 10 = .pointer (some ⟨p + 2, 0, none⟩)
  e11 : σ 11 = .pointer (some ⟨p + 4, 0, none⟩)
  B6 : Blk u h p [str [], .slice none 0 0, .int .i64 0, .slice none 0 0]
  B9 : Blk u h (p + 1) [.int .i64 4, .int .i64 0, str [88], .int .i64 a]
  B10 : Blk u h (p + 2) [.int .i64 4, .int .i64 0, str [95], .int .i64 b]
  B11 : Blk u h (p + 4) [.int .i64 1, str z1, .slice c 1 1, .int .i64 0, .int .i64 0, .int .i64 0, .int .i64 0, str [], .int .i64 0, .int .i64 0, .int .i64 0, str [], .int .i64 0, .int .i64 0]
  hq : IsSl u h (.slice c 1 1) [varA [89] 0]
theorem rep_posA {u : U} {h : H} {a : Atom} {v : Value} (hv : IsSl u h v a.2.1) : Rep.rep u h (posA a) [.int .i64 1, str a.1, v, .int .i64 a.2.2, .int .i64 0, .int .i64 0, .int .i64 0, str [], .int .i64 0, .int .i64 0, .int .i64 0, str [], .int .i64 0, .int .i64 0] := rep_literal.mpr ⟨v, rfl, hv⟩
theorem rep_negA {u : U} {h : H} {a : Atom} {v : Value} (hv : IsSl u h v a.2.1) : Rep.rep u h (negA a) [.int .i64 2, str a.1, v, .int .i64 a.2.2, .int .i64 0, .int .i64 0, .int .i64 0, str [], .int .i64 0, .int .i64 0, .int .i64 0, str [], .int .i64 0, .int .i64 0] := rep_literal.mpr ⟨v, rfl, hv⟩
theorem rep_varA {u : U} {h : H} {s : Byts} {o : Int} : Rep.rep u h (varA s o) [.int .i64 4, .int .i64 0, str s, .int .i64 o] := rep_term.mpr rfl
theorem sp0_ok {K : Value → H → Prop} {KP : List PanicEntry → H → Prop} {u0 : U} {h0 : H} {a b : Int} {p : Nat} {c : Option Addr} {σ : Env} {u : U} {h : H} (X : SpX u0 h0 a b p c σ u h) (e0 : σ 0 = .int .i64 0) (hK : Ks u0 h0 0 a b K) : wpS G0 spT (retQ klSpoiler_E (callK K KP)) σ h := by
  obtain ⟨st, lo, e1, e2, e6, e9, e10, e11, B6, B9, B10, B11, hq⟩ := X
  have hm := mlen'
  have b6 := B6.1
  have b9 := B9.1
  have b10 := B10.1
  have b11 := B11.1
  have Bw : Blk u (hsets h p 0 [str z1, .slice (some ⟨h.size, 0, none⟩) 1 1, .int .i64 0, .slice (some ⟨h.size + 1, 0, none⟩) 1 1]) p [str z1, .slice (some ⟨h.size, 0, none⟩) 1 1, .int .i64 0, .slice (some ⟨h.size + 1, 0, none⟩) 1 1] := B6.sets rfl
  have sW : Step (fun j => j = p) u h u (hsets h p 0 [str z1, .slice (some ⟨h.size, 0, none⟩) 1 1, .int .i64 0, .slice (some ⟨h.size + 1, 0, none⟩) 1 1]) := Step.sets u h _ rfl (by rw [B6.2.2.2.1]; exact Nat.le_refl _) (by rw [B6.2.1]; exact Nat.le_refl _)
  have hWs : (hsets h p 0 [str z1, .slice (some ⟨h.size, 0, none⟩) 1 1, .int .i64 0, .slice (some ⟨h.size + 1, 0, none⟩) 1 1]).size = h.size := hsets_size _ _ _ _
  have bw := Bw.1
  simp (disch := first | omega | (simp only [e_ssz, e_psz, e_hszs, List.length_cons, List.length_nil]; try omega; done)) only [↓reduceIte, go_sem, spT, sS, klSpoiler_S, klSpoiler_E, e0, e1, e6, e9, e11, B6.2.1, B6.2.2.1, B9.at, B9.2.1, B11.at, B11.2.1, z1]
  simp only [z1] at Bw sW hWs bw B11
  try simp (disch := first | omega | (simp only [e_ssz, e_psz, e_hszs, List.length_cons, List.length_nil]; try omega; done)) only [go_sem, Bw.at, Bw.2.1]
  obtain ⟨W, hW⟩ : ∃ W, W = hsets h p 0 [str [122, 49], .slice (some ⟨h.size, 0, none⟩) 1 1, .int .i64 0, .slice (some ⟨h.size + 1, 0, none⟩) 1 1] := ⟨_, rfl⟩
  rw [← hW] at sW hWs ⊢
  have tT := Step.push S0 u W #[.int .i64 4, .int .i64 0, str [88], .int .i64 a] 94 4
  have iT : IsSl (ub u W.size 4) (W.push (.cells #[.int .i64 4, .int .i64 0, str [88], .int .i64 a] 94)) (.slice (some ⟨W.size, 0, none⟩) 1 1) [varA [88] a] := isSl_push1 94 (x := varA [88] a) rep_varA
  try simp only [hWs] at iT
  try simp only [hWs] at tT
  have tQ := Step.push S0 (ub u (h.size) 4) (W.push (.cells #[.int .i64 4, .int .i64 0, str [88], .int .i64 a] 94)) #[.int .i64 1, str [122, 49], .slice c 1 1, .int .i64 0, .int .i64 0, .int .i64 0, .int .i64 0, str [], .int .i64 0, .int .i64 0, .int .i64 0, str [], .int .i64 0, .int .i64 0] 109 14
  have iQ : IsSl (ub (ub u (h.size) 4) (W.push (.cells #[.int .i64 4, .int .i64 0, str [88], .int .i64 a] 94)).size 14) ((W.push (.cells #[.int .i64 4, .int .i64 0, str [88], .int .i64 a] 94)).push (.cells #[.int .i64 1, str [122, 49], .slice c 1 1, .int .i64 0, .int .i64 0, .int .i64 0, .int .i64 0, str [], .int .i64 0, .int .i64 0, .int .i64 0, str [], .int .i64 0, .int .i64 0] 109)) (.slice (some ⟨(W.push (.cells #[.int .i64 4, .int .i64 0, str [88], .int .i64 a] 94)).size, 0, none⟩) 1 1) [spQ] := isSl_push1 109 (x := spQ) (rep_posA (hq.mono (sW.trans0 tT).ge))
  try simp only [e_psz, hWs] at iQ
  try simp only [e_psz, hWs] at tQ
  have iT' := iT.mono tQ.ge
  have ts := (sW.trans0 tT).trans0 tQ
  exact hK _ _ _ (st.own ts (fun j e => by have e : j = p := e; omega)) (rep_clause.mpr ⟨_, _, rfl, iT', iQ⟩)
theorem sp1_ok {K : Value → H → Prop} {KP : List PanicEntry → H → Prop} {u0 : U} {h0 : H} {a b : Int} {p : Nat} {c : Option Addr} {σ : Env} {u : U} {h : H} (X : SpX u0 h0 a b p c σ u h) (e0 : σ 0 = .int .i64 1) (hK : Ks u0 h0 1 a b K) : wpS G0 spT (retQ klSpoiler_E (callK K KP)) σ h := by
  obtain ⟨st, lo, e1, e2, e6, e9, e10, e11, B6, B9, B10, B11, hq⟩ := X
  have hm := mlen'
  have b6 := B6.1
  have b9 := B9.1
  have b10 := B10.1
  have b11 := B11.1
  have Bw : Blk u (hsets h p 0 [str z0, .slice none 0 0, .int .i64 0, .slice (some ⟨h.size + 1 + 1, 0, none⟩) 2 2]) p [str z0, .slice none 0 0, .int .i64 0, .slice (some ⟨h.size + 1 + 1, 0, none⟩) 2 2] := B6.sets rfl
  have sW : Step (fun j => j = p) u h u (hsets h p 0 [str z0, .slice none 0 0, .int .i64 0, .slice (some ⟨h.size + 1 + 1, 0, none⟩) 2 2]) := Step.sets u h _ rfl (by rw [B6.2.2.2.1]; exact Nat.le_refl _) (by rw [B6.2.1]; exact Nat.le_refl _)
  have hWs : (hsets h p 0 [str z0, .slice none 0 0, .int .i64 0, .slice (some ⟨h.size + 1 + 1, 0, none⟩) 2 2]).size = h.size := hsets_size _ _ _ _
  have bw := Bw.1
  simp (disch := first | omega | (simp only [e_ssz, e_psz, e_hszs, List.length_cons, List.length_nil]; try omega; done)) only [↓reduceIte, go_sem, spT, sS, klSpoiler_S, klSpoiler_E, e0, e2, e6, e10, e11, B6.2.1, B6.2.2.1, B10.at, B10.2.1, B11.at, B11.2.1, z1]
  simp only [z1, z0] at Bw sW hWs bw B11
  try simp (disch := first | omega | (simp only [e_ssz, e_psz, e_hszs, List.length_cons, List.length_nil]; try omega; done)) only [go_sem, Bw.at, Bw.2.1]
  obtain ⟨W, hW⟩ : ∃ W, W = hsets h p 0 [str [122, 48], .slice none 0 0, .int .i64 0, .slice (some ⟨h.size + 1 + 1, 0, none⟩) 2 2] := ⟨_, rfl⟩
  rw [← hW] at sW hWs ⊢
  have tT := Step.push S0 u W #[.int .i64 4, .int .i64 0, str [95], .int .i64 b] 94 4
  have iT : IsSl (ub u W.size 4) (W.push (.cells #[.int .i64 4, .int .i64 0, str [95], .int .i64 b] 94)) (.slice (some ⟨W.size, 0, none⟩) 1 1) [varA [95] b] := isSl_push1 94 (x := varA [95] b) rep_varA
  try simp only [hWs] at iT
  try simp only [hWs] at tT
  have tN := Step.push S0 (ub u (h.size) 4) (W.push (.cells #[.int .i64 4, .int .i64 0, str [95], .int .i64 b] 94)) #[.int .i64 2, str [122, 49], .slice (some ⟨h.size, 0, none⟩) 1 1, .int .i64 0, .int .i64 0, .int .i64 0, .int .i64 0, str [], .int .i64 0, .int .i64 0, .int .i64 0, str [], .int .i64 0, .int .i64 0] 109 0
  try simp only [e_psz, hWs] at tN
  have iT' := iT.mono tN.ge
  have tQ := Step.push S0 (ub (ub u (h.size) 4) (h.size + 1) 0) ((W.push (.cells #[.int .i64 4, .int .i64 0, str [95], .int .i64 b] 94)).push (.cells #[.int .i64 2, str [122, 49], .slice (some ⟨h.size, 0, none⟩) 1 1, .int .i64 0, .int .i64 0, .int .i64 0, .int .i64 0, str [], .int .i64 0, .int .i64 0, .int .i64 0, str [], .int .i64 0, .int .i64 0] 109)) #[.int .i64 1, str [122, 49], .slice c 1 1, .int .i64 0, .int .i64 0, .int .i64 0, .int .i64 0, str [], .int .i64 0, .int .i64 0, .int .i64 0, str [], .int .i64 0, .int .i64 0, .int .i64 2, str [122, 49], .slice (some ⟨h.size, 0, none⟩) 1 1, .int .i64 0, .int .i64 0, .int .i64 0, .int .i64 0, str [], .int .i64 0, .int .i64 0, .int .i64 0, str [], .int .i64 0, .int .i64 0] 109 28
  have iQ : IsSl (ub (ub (ub u (h.size) 4) (h.size + 1) 0) ((W.push (.cells #[.int .i64 4, .int .i64 0, str [95], .int .i64 b] 94)).push (.cells #[.int .i64 2, str [122, 49], .slice (some ⟨h.size, 0, none⟩) 1 1, .int .i64 0, .int .i64 0, .int .i64 0, .int .i64 0, str [], .int .i64 0, .int .i64 0, .int .i64 0, str [], .int .i64 0, .int .i64 0] 109)).size 28) (((W.push (.cells #[.int .i64 4, .int .i64 0, str [95], .int .i64 b] 94)).push (.cells #[.int .i64 2, str [122, 49], .slice (some ⟨h.size, 0, none⟩) 1 1, .int .i64 0, .int .i64 0, .int .i64 0, .int .i64 0, str [], .int .i64 0, .int .i64 0, .int .i64 0, str [], .int .i64 0, .int .i64 0] 109)).push (.cells #[.int .i64 1, str [122, 49], .slice c 1 1, .int .i64 0, .int .i64 0, .int .i64 0, .int .i64 0, str [], .int .i64 0, .int .i64 0, .int .i64 0, str [], .int .i64 0, .int .i64 0, .int .i64 2, str [122, 49], .slice (some ⟨h.size, 0, none⟩) 1 1, .int .i64 0, .int .i64 0, .int .i64 0, .int .i64 0, str [], .int .i64 0, .int .i64 0, .int .i64 0, str [], .int .i64 0, .int .i64 0] 109)) (.slice (some ⟨((W.push (.cells #[.int .i64 4, .int .i64 0, str [95], .int .i64 b] 94)).push (.cells #[.int .i64 2, str [122, 49], .slice (some ⟨h.size, 0, none⟩) 1 1, .int .i64 0, .int .i64 0, .int .i64 0, .int .i64 0, str [], .int .i64 0, .int .i64 0, .int .i64 0, str [], .int .i64 0, .int .i64 0] 109)).size, 0, none⟩) 2 2) [spQ, negA (z1, [varA [95] b], 0)] := isSl_push2 109 (x := spQ) (y := negA (z1, [varA [95] b], 0)) (rep_posA (hq.mono ((sW.trans0 tT).trans0 tN).ge)) (rep_negA iT')
  try simp only [e_psz, hWs] at iQ
  try simp only [e_psz, hWs] at tQ
  have iT'' := iT'.mono tQ.ge
  have ts := ((sW.trans0 tT).trans0 tN).trans0 tQ
  exact hK _ _ _ (st.own ts (fun j e => by have e : j = p := e; omega)) (rep_clause.mpr ⟨_, _, rfl, IsSl.nil _ _, iQ⟩)
theorem sp2_ok {K : Value → H → Prop} {KP : List PanicEntry → H → Prop} {u0 : U} {h0 : H} {a b : Int} {p : Nat} {c : Option Addr} {σ : Env} {u : U} {h : H} (X : SpX u0 h0 a b p c σ u h) (e0 : σ 0 = .int .i64 2) (hK : Ks u0 h0 2 a b K) : wpS G0 spT (retQ klSpoiler_E (callK K KP)) σ h := by
  obtain ⟨st, lo, e1, e2, e6, e9, e10, e11, B6, B9, B10, B11, hq⟩ := X
  have hm := mlen'
  have b6 := B6.1
  have b9 := B9.1
  have b10 := B10.1
  have b11 := B11.1
  have Bw : Blk u (hsets h p 0 [str z0, .slice none 0 0, .int .i64 0, .slice (some ⟨h.size + 1, 0, none⟩) 2 2]) p [str z0, .slice none 0 0, .int .i64 0, .slice (some ⟨h.size + 1, 0, none⟩) 2 2] := B6.sets rfl
  have sW : Step (fun j => j = p) u h u (hsets h p 0 [str z0, .slice none 0 0, .int .i64 0, .slice (some ⟨h.size + 1, 0, none⟩) 2 2]) := Step.sets u h _ rfl (by rw [B6.2.2.2.1]; exact Nat.le_refl _) (by rw [B6.2.1]; exact Nat.le_refl _)
  have hWs : (hsets h p 0 [str z0, .slice none 0 0, .int .i64 0, .slice (some ⟨h.size + 1, 0, none⟩) 2 2]).size = h.size := hsets_size _ _ _ _
  have bw := Bw.1
  simp (disch := first | omega | (simp only [e_ssz, e_psz, e_hszs, List.length_cons, List.length_nil]; try omega; done)) only [↓reduceIte, go_sem, spT, sS, klSpoiler_S, klSpoiler_E, e0, e1, e6, e9, e11, B6.2.1, B6.2.2.1, B9.at, B9.2.1, B11.at, B11.2.1, z1]
  simp only [z1, z0] at Bw sW hWs bw B11
  try simp (disch := first | omega | (simp only [e_ssz, e_psz, e_hszs, List.length_cons, List.length_nil]; try omega; done)) only [go_sem, Bw.at, Bw.2.1]
  obtain ⟨W, hW⟩ : ∃ W, W = hsets h p 0 [str [122, 48], .slice none 0 0, .int .i64 0, .slice (some ⟨h.size + 1, 0, none⟩) 2 2] := ⟨_, rfl⟩
  rw [← hW] at sW hWs ⊢
  have tN := Step.push S0 u W #[.int .i64 3, str [], .slice none 0 0, .int .i64 0, .int .i64 1, .int .i64 4, .int .i64 0, str [89], .int .i64 0, .int .i64 4, .int .i64 0, str [88], .int .i64 a, .int .i64 0] 109 0
  try simp only [hWs] at tN
  have tQ := Step.push S0 (ub u (h.size) 0) (W.push (.cells #[.int .i64 3, str [], .slice none 0 0, .int .i64 0, .int .i64 1, .int .i64 4, .int .i64 0, str [89], .int .i64 0, .int .i64 4, .int .i64 0, str [88], .int .i64 a, .int .i64 0] 109)) #[.int .i64 3, str [], .slice none 0 0, .int .i64 0, .int .i64 1, .int .i64 4, .int .i64 0, str [89], .int .i64 0, .int .i64 4, .int .i64 0, str [88], .int .i64 a, .int .i64 0, .int .i64 1, str [122, 49], .slice c 1 1, .int .i64 0, .int .i64 0, .int .i64 0, .int .i64 0, str [], .int .i64 0, .int .i64 0, .int .i64 0, str [], .int .i64 0, .int .i64 0] 109 28
  have iQ : IsSl (ub (ub u (h.size) 0) (W.push (.cells #[.int .i64 3, str [], .slice none 0 0, .int .i64 0, .int .i64 1, .int .i64 4, .int .i64 0, str [89], .int .i64 0, .int .i64 4, .int .i64 0, str [88], .int .i64 a, .int .i64 0] 109)).size 28) ((W.push (.cells #[.int .i64 3, str [], .slice none 0 0, .int .i64 0, .int .i64 1, .int .i64 4, .int .i64 0, str [89], .int .i64 0, .int .i64 4, .int .i64 0, str [88], .int .i64 a, .int .i64 0] 109)).push (.cells #[.int .i64 3, str [], .slice none 0 0, .int .i64 0, .int .i64 1, .int .i64 4, .int .i64 0, str [89], .int .i64 0, .int .i64 4, .int .i64 0, str [88], .int .i64 a, .int .i64 0, .int .i64 1, str [122, 49], .slice c 1 1, .int .i64 0, .int .i64 0, .int .i64 0, .int .i64 0, str [], .int .i64 0, .int .i64 0, .int .i64 0, str [], .int .i64 0, .int .i64 0] 109)) (.slice (some ⟨(W.push (.cells #[.int .i64 3, str [], .slice none 0 0, .int .i64 0, .int .i64 1, .int .i64 4, .int .i64 0, str [89], .int .i64 0, .int .i64 4, .int .i64 0, str [88], .int .i64 a, .int .i64 0] 109)).size, 0, none⟩) 2 2) [(3, zatom, 1, varA [89] 0, varA [88] a, 0), spQ] := isSl_push2 109 (x := (3, zatom, 1, varA [89] 0, varA [88] a, 0)) (y := spQ) (rep_literal.mpr ⟨_, rfl, IsSl.nil _ _⟩) (rep_posA (hq.mono (sW.trans0 tN).ge))
  try simp only [e_psz, hWs] at iQ
  try simp only [e_psz, hWs] at tQ
  have ts := (sW.trans0 tN).trans0 tQ
  exact hK _ _ _ (st.own ts (fun j e => by have e : j = p := e; omega)) (rep_clause.mpr ⟨_, _, rfl, IsSl.nil _ _, iQ⟩)
theorem sp4_ok {K : Value → H → Prop} {KP : List PanicEntry → H → Prop} {u0 : U} {h0 : H} {a b : Int} {p : Nat} {c : Option Addr} {σ : Env} {u : U} {h : H} (X : SpX u0 h0 a b p c σ u h) (e0 : σ 0 = .int .i64 4) (hK : Ks u0 h0 4 a b K) : wpS G0 spT (retQ klSpoiler_E (callK K KP)) σ h := by
  obtain ⟨st, lo, e1, e2, e6, e9, e10, e11, B6, B9, B10, B11, hq⟩ := X
  have hm := mlen'
  have b6 := B6.1
  have b9 := B9.1
  have b10 := B10.1
  have b11 := B11.1
  have Bw : Blk u (hsets h p 0 [str z0, .slice none 0 0, .int .i64 0, .slice (some ⟨h.size + 1, 0, none⟩) 2 2]) p [str z0, .slice none 0 0, .int .i64 0, .slice (some ⟨h.size + 1, 0, none⟩) 2 2] := B6.sets rfl
  have sW : Step (fun j => j = p) u h u (hsets h p 0 [str z0, .slice none 0 0, .int .i64 0, .slice (some ⟨h.size + 1, 0, none⟩) 2 2]) := Step.sets u h _ rfl (by rw [B6.2.2.2.1]; exact Nat.le_refl _) (by rw [B6.2.1]; exact Nat.le_refl _)
  have hWs : (hsets h p 0 [str z0, .slice none 0 0, .int .i64 0, .slice (some ⟨h.size + 1, 0, none⟩) 2 2]).size = h.size := hsets_size _ _ _ _
  have bw := Bw.1
  simp (disch := first | omega | (simp only [e_ssz, e_psz, e_hszs, List.length_cons, List.length_nil]; try omega; done)) only [↓reduceIte, go_sem, spT, sS, klSpoiler_S, klSpoiler_E, e0, e1, e6, e11, B6.2.1, B6.2.2.1, B11.at, B11.2.1, z1]
  simp only [z1, z0] at Bw sW hWs bw B11
  try simp (disch := first | omega | (simp only [e_ssz, e_psz, e_hszs, List.length_cons, List.length_nil]; try omega; done)) only [go_sem, Bw.at, Bw.2.1]
  obtain ⟨W, hW⟩ : ∃ W, W = hsets h p 0 [str [122, 48], .slice none 0 0, .int .i64 0, .slice (some ⟨h.size + 1, 0, none⟩) 2 2] := ⟨_, rfl⟩
  rw [← hW] at sW hWs ⊢
  have tN := Step.push S0 u W #[.int .i64 2, str [122, 49], .slice none 0 0, .int .i64 a, .int .i64 0, .int .i64 0, .int .i64 0, str [], .int .i64 0, .int .i64 0, .int .i64 0, str [], .int .i64 0, .int .i64 0] 109 0
  try simp only [hWs] at tN
  have tQ := Step.push S0 (ub u (h.size) 0) (W.push (.cells #[.int .i64 2, str [122, 49], .slice none 0 0, .int .i64 a, .int .i64 0, .int .i64 0, .int .i64 0, str [], .int .i64 0, .int .i64 0, .int .i64 0, str [], .int .i64 0, .int .i64 0] 109)) #[.int .i64 1, str [122, 49], .slice c 1 1, .int .i64 0, .int .i64 0, .int .i64 0, .int .i64 0, str [], .int .i64 0, .int .i64 0, .int .i64 0, str [], .int .i64 0, .int .i64 0, .int .i64 2, str [122, 49], .slice none 0 0, .int .i64 a, .int .i64 0, .int .i64 0, .int .i64 0, str [], .int .i64 0, .int .i64 0, .int .i64 0, str [], .int .i64 0, .int .i64 0] 109 28
  have iQ : IsSl (ub (ub u (h.size) 0) (W.push (.cells #[.int .i64 2, str [122, 49], .slice none 0 0, .int .i64 a, .int .i64 0, .int .i64 0, .int .i64 0, str [], .int .i64 0, .int .i64 0, .int .i64 0, str [], .int .i64 0, .int .i64 0] 109)).size 28) ((W.push (.cells #[.int .i64 2, str [122, 49], .slice none 0 0, .int .i64 a, .int .i64 0, .int .i64 0, .int .i64 0, str [], .int .i64 0, .int .i64 0, .int .i64 0, str [], .int .i64 0, .int .i64 0] 109)).push (.cells #[.int .i64 1, str [122, 49], .slice c 1 1, .int .i64 0, .int .i64 0, .int .i64 0, .int .i64 0, str [], .int .i64 0, .int .i64 0, .int .i64 0, str [], .int .i64 0, .int .i64 0, .int .i64 2, str [122, 49], .slice none 0 0, .int .i64 a, .int .i64 0, .int .i64 0, .int .i64 0, str [], .int .i64 0, .int .i64 0, .int .i64 0, str [], .int .i64 0, .int .i64 0] 109)) (.slice (some ⟨(W.push (.cells #[.int .i64 2, str [122, 49], .slice none 0 0, .int .i64 a, .int .i64 0, .int .i64 0, .int .i64 0, str [], .int .i64 0, .int .i64 0, .int .i64 0, str [], .int .i64 0, .int .i64 0] 109)).size, 0, none⟩) 2 2) [spQ, negA (z1, [], a)] := isSl_push2 109 (x := spQ) (y := negA (z1, [], a)) (rep_posA (hq.mono (sW.trans0 tN).ge)) (rep_negA (IsSl.nil _ _))
  try simp only [e_psz, hWs] at iQ
  try simp only [e_psz, hWs] at tQ
  have ts := (sW.trans0 tN).trans0 tQ
  exact hK _ _ _ (st.own ts (fun j e => by have e : j = p := e; omega)) (rep_clause.mpr ⟨_, _, rfl, IsSl.nil _ _, iQ⟩)
theorem sp5_ok {K : Value → H → Prop} {KP : List PanicEntry → H → Prop} {u0 : U} {h0 : H} {a b : Int} {p : Nat} {c : Option Addr} {σ : Env} {u : U} {h : H} (X : SpX u0 h0 a b p c σ u h) (e0 : σ 0 = .int .i64 5) (hK : Ks u0 h0 5 a b K) : wpS G0 spT (retQ klSpoiler_E (callK K KP)) σ h := by
  obtain ⟨st, lo, e1, e2, e6, e9, e10, e11, B6, B9, B10, B11, hq⟩ := X
  have hm := mlen'
  have b6 := B6.1
  have b9 := B9.1
  have b10 := B10.1
  have b11 := B11.1
  have Bw : Blk u (hsets h p 0 [str z1, .slice (some ⟨h.size, 0, none⟩) 1 1, .int .i64 0, .slice none 0 0]) p [str z1, .slice (some ⟨h.size, 0, none⟩) 1 1, .int .i64 0, .slice none 0 0] := B6.sets rfl
  have sW : Step (fun j => j = p) u h u (hsets h p 0 [str z1, .slice (some ⟨h.size, 0, none⟩) 1 1, .int .i64 0, .slice none 0 0]) := Step.sets u h _ rfl (by rw [B6.2.2.2.1]; exact Nat.le_refl _) (by rw [B6.2.1]; exact Nat.le_refl _)
  have hWs : (hsets h p 0 [str z1, .slice (some ⟨h.size, 0, none⟩) 1 1, .int .i64 0, .slice none 0 0]).size = h.size := hsets_size _ _ _ _
  have bw := Bw.1
  simp (disch := first | omega | (simp only [e_ssz, e_psz, e_hszs, List.length_cons, List.length_nil]; try omega; done)) only [↓reduceIte, go_sem, spT, sS, klSpoiler_S, klSpoiler_E, e0, e1, e6, e9, B6.2.1, B6.2.2.1, B9.at, B9.2.1]
  simp only [z1] at Bw sW hWs bw B11
  try simp (disch := first | omega | (simp only [e_ssz, e_psz, e_hszs, List.length_cons, List.length_nil]; try omega; done)) only [go_sem, Bw.at, Bw.2.1]
  obtain ⟨W, hW⟩ : ∃ W, W = hsets h p 0 [str [122, 49], .slice (some ⟨h.size, 0, none⟩) 1 1, .int .i64 0, .slice none 0 0] := ⟨_, rfl⟩
  rw [← hW] at sW hWs ⊢
  have tT := Step.push S0 u W #[.int .i64 4, .int .i64 0, str [88], .int .i64 a] 94 4
  have iT : IsSl (ub u W.size 4) (W.push (.cells #[.int .i64 4, .int .i64 0, str [88], .int .i64 a] 94)) (.slice (some ⟨W.size, 0, none⟩) 1 1) [varA [88] a] := isSl_push1 94 (x := varA [88] a) rep_varA
  try simp only [hWs] at iT
  try simp only [hWs] at tT
  have ts := sW.trans0 tT
  exact hK _ _ _ (st.own ts (fun j e => by have e : j = p := e; omega)) (rep_clause.mpr ⟨_, _, rfl, iT, IsSl.nil _ _⟩)
/-! the loop -/
def argI (b : Int) (i : Nat) : List Term := [varA [95] 0, varA [95] 0, varA [95] 0, varA [95] 0, varA [95] (if i = 2 then b else 0), varA [95] 0]
def bodI (b : Int) : List Literal := [spG, spG, spL b]
theorem bodI_get {b : Int} {i : Nat} (h : i < 3) : (bodI b)[i]? = some (posA (z6, argI b i, 0)) := by
  match i, h with
  | 0, _ => rfl
  | 1, _ => rfl
  | 2, _ => rfl
theorem argI_get {b : Int} {i j : Nat} (h : j < 6) : (argI b i)[j]? = some (varA [95] (if i = 2 ∧ j = 4 then b else 0)) := by
  match j, h with
  | 0, _ => simp [argI]
  | 1, _ => simp [argI]
  | 2, _ => simp [argI]
  | 3, _ => simp [argI]
  | 4, _ => simp [argI]
  | 5, _ => simp [argI]
theorem sp3_ok {K : Value → H → Prop} {KP : List PanicEntry → H → Prop} {u0 : U} {h0 : H} {a b : Int} {p : Nat} {c : Option Addr} {σ : Env} {u : U} {h : H} (X : SpX u0 h0 a b p c σ u h) (e0 : σ 0 = .int .i64 3) (hK : Ks u0 h0 3 a b K) : wpS G0 spT (retQ klSpoiler_E (callK K KP)) σ h := by
  obtain ⟨st, lo, e1, e2, e6, e9, e10, e11, B6, B9, B10, B11, hq⟩ := X
  have hm := mlen'
  have b6 := B6.1
  have s1 := Step.push0 S0 u h #[str [122, 48], .slice none 0 0, .int .i64 0, .slice none 0 0] 48
  have B14 : Blk (ub u h.size 0) (h.push (.cells #[str [122, 48], .slice none 0 0, .int .i64 0, .slice none 0 0] 48)) h.size [str [122, 48], .slice none 0 0, .int .i64 0, .slice none 0 0] := Blk.new [str [122, 48], .slice none 0 0, .int .i64 0, .slice none 0 0] _
  have B61 := B6.step0 s1
  have st1 := st.trans0 s1
  simp (disch := first | omega | (simp only [e_ssz, e_psz, e_hszs, List.length_cons, List.length_nil]; try omega; done)) only [↓reduceIte, go_sem, spT, sS, klSpoiler_S, klSpoiler_E, e0]
  obtain ⟨q, hq⟩ : ∃ q, q = h.size := ⟨_, rfl⟩
  rw [← hq] at B14 st1 B61
  have hqn : p < q ∧ h0.size ≤ q := by have := st.ge.sz; omega
  obtain ⟨J, hJ⟩ : ∃ J : Nat → Env → H → Prop, J = fun i σ h' => σ 2 = .int .i64 b ∧ σ 6 = .pointer (some ⟨p, 0, none⟩) ∧ σ 14 = .pointer (some ⟨q, 0, none⟩) ∧ σ 15 = .int .i64 i ∧ i ≤ 3 ∧
    ∃ (u' : U) (vB : Value), Step S0 u0 h0 u' h' ∧ Own (q + 1) u' h' vB ((bodI b).take i) ∧ Blk u' h' p [str [], .slice none 0 0, .int .i64 0, .slice none 0 0] ∧ Blk u' h' q [str [122, 48], .slice none 0 0, .int .i64 0, vB] := ⟨_, rfl⟩
  refine wpS_loop J (fun i => 3 - i) 0 (by rw [hJ]; exact ⟨by simp [upd, e2], by simp [upd, e6], by simp [upd, hq], by simp [upd], by omega, _, .slice none 0 0, st1, .nil _ _ _, B61, B14⟩) ?_
  clear B61 B14 st1 s1 e0 e1 e2 e6 e9 e10 e11 B6 B9 B10 B11 hq b6 st
  intro i σ h1 hy
  rw [hJ] at hy
  obtain ⟨e2, e6, e14, e15, hi, u1, vB, st, oB, B6, B14⟩ := hy
  have b6 := B6.1
  have b14 := B14.1
  by_cases hlt : i < 3
  · have hbg := bodI_get (b := b) hlt
    have s2 := Step.push0 S0 u1 h1 #[.int .i64 1, str [122, 54], .slice none 0 0, .int .i64 0, .int .i64 0, .int .i64 0, .int .i64 0, str [], .int .i64 0, .int .i64 0, .int .i64 0, str [], .int .i64 0, .int .i64 0] 109
    have B16 : Blk (ub u1 h1.size 0) (h1.push (.cells #[.int .i64 1, str [122, 54], .slice none 0 0, .int .i64 0, .int .i64 0, .int .i64 0, .int .i64 0, str [], .int .i64 0, .int .i64 0, .int .i64 0, str [], .int .i64 0, .int .i64 0] 109)) h1.size [.int .i64 1, str [122, 54], .slice none 0 0, .int .i64 0, .int .i64 0, .int .i64 0, .int .i64 0, str [], .int .i64 0, .int .i64 0, .int .i64 0, str [], .int .i64 0, .int .i64 0] := Blk.new [.int .i64 1, str [122, 54], .slice none 0 0, .int .i64 0, .int .i64 0, .int .i64 0, .int .i64 0, str [], .int .i64 0, .int .i64 0, .int .i64 0, str [], .int .i64 0, .int .i64 0] _
    simp (disch := first | omega | (simp only [e_ssz, e_psz, e_hszs, List.length_cons, List.length_nil]; try omega; done)) only [↓reduceIte, go_sem, klSpoiler_L1, e15, eq_true (show (i : Int) < 3 by omega)]
    obtain ⟨r, hr⟩ : ∃ r, r = h1.size := ⟨_, rfl⟩
    rw [← hr] at B16 s2
    obtain ⟨I, hI⟩ : ∃ I : Nat → Env → H → Prop, I = fun j σ h' => σ 2 = .int .i64 b ∧ σ 6 = .pointer (some ⟨p, 0, none⟩) ∧ σ 14 = .pointer (some ⟨q, 0, none⟩) ∧ σ 15 = .int .i64 i ∧ σ 16 = .pointer (some ⟨r, 0, none⟩) ∧ σ 17 = .int .i64 j ∧ j ≤ 6 ∧
      ∃ (u' : U) (vA : Value), Step S0 u1 h1 u' h' ∧ Own (r + 1) u' h' vA ((argI b i).take j) ∧ Blk u' h' r [.int .i64 1, str [122, 54], vA, .int .i64 0, .int .i64 0, .int .i64 0, .int .i64 0, str [], .int .i64 0, .int .i64 0, .int .i64 0, str [], .int .i64 0, .int .i64 0] := ⟨_, rfl⟩
    refine wpS_loop I (fun j => 6 - j) 0 (by rw [hI]; exact ⟨by simp [upd, e2], by simp [upd, e6], by simp [upd, e14], by simp [upd, e15], by simp [upd, hr], by simp [upd], by omega, _, .slice none 0 0, s2, .nil _ _ _, B16⟩) ?_
    clear e2 e6 e14 e15 B16 s2
    intro j σ h2 hy
    rw [hI] at hy
    obtain ⟨e2, e6, e14, e15, e16, e17, hj, u2, vA, s2, oA, B16⟩ := hy
    have b16 := B16.1
    by_cases hjt : j < 6
    · have hag := argI_get (b := b) (i := i) hjt
      have htk : (argI b i).take (j + 1) = (argI b i).take j ++ [varA [95] (if i = 2 ∧ j = 4 then b else 0)] := by rw [List.take_add_one, hag]; rfl
      have hoL : ((argI b i).take j).length = j := by rw [List.length_take]; show min j 6 = j; omega
      by_cases h24 : i = 2 ∧ j = 4
      · rw [if_pos h24] at htk
        obtain ⟨hi2, hj4⟩ := h24
        have sT := Step.push0 S0 u2 h2 #[.int .i64 4, .int .i64 0, str [95], .int .i64 b] 94
        have oT := oA.step0 sT
        have B17 := B16.step0 sT
        have b17 := B17.1
        simp (disch := first | omega | (simp only [e_ssz, e_psz, e_hszs, List.length_cons, List.length_nil]; try omega; done)) only [↓reduceIte, go_sem, klSpoiler_L2, e2, e15, e16, e17, eq_true (show (j : Int) < 6 by omega), eq_true (show (i : Int) = 2 by omega), eq_true (show (j : Int) = 4 by omega), B17.at, B17.2.1]
        refine effS_app1o (by simp only [e_psz]) oT (x := varA [95] b) (cs := [.int .i64 4, .int .i64 0, str [95], .int .i64 b]) rep_varA rfl rfl (by simp only [e_psz]; omega) (by omega) fun a3 n3 c3 u3 h3 o3 s3 b3 => ⟨by simp (disch := first | omega | (simp only [e_ssz, e_psz, e_hszs, List.length_cons, List.length_nil]; try omega; done)) only [go_sem], ?_⟩
        have Q16 := B17.step s3 (fun hj => by have := oA.ge hj; omega)
        have s4 := (s2.trans0 sT).own s3 (fun k hk => by have := oA.ge hk; omega)
        have sw : Step (fun k => k = r) u3 h3 u3 (hset h3 r 2 (.slice a3 n3 c3)) := Step.set u3 h3 _ rfl (by rw [Q16.2.2.2.1]; exact Nat.zero_le _)
        have R16 := Q16.set (i := 2) (v := .slice a3 n3 c3) (by simp)
        have q16 := Q16.1
        have x16 := Q16.2.1
        have y16 := Q16.2.2.1
        simp (disch := first | omega | (simp only [e_ssz, e_psz, e_hszs, List.length_cons, List.length_nil]; try omega; done)) only [↓reduceIte, go_sem, e16, e17, x16, y16]
        refine ⟨j + 1, ?_, by omega⟩
        rw [hI]
        refine ⟨by simp [upd, e2], by simp [upd, e6], by simp [upd, e14], by simp [upd, e15], by simp [upd, e16], by simp [upd], hjt, u3, _, s4.own sw (fun k hk => by have hk : k = r := hk; omega), ?_, R16⟩
        rw [htk]
        exact o3.step sw (fun k hk e => by have := o3.ge hk; have e : k = r := e; omega)
      · rw [if_neg h24] at htk
        by_cases hi2 : i = 2
        · have hj4 : j ≠ 4 := fun e => h24 ⟨hi2, e⟩
          have sT := Step.push0 S0 u2 h2 #[.int .i64 4, .int .i64 0, str [95], .int .i64 0] 94
          have oT := oA.step0 sT
          have B17 := B16.step0 sT
          have b17 := B17.1
          simp (disch := first | omega | (simp only [e_ssz, e_psz, e_hszs, List.length_cons, List.length_nil]; try omega; done)) only [↓reduceIte, go_sem, klSpoiler_L2, e15, e16, e17, eq_true (show (j : Int) < 6 by omega), eq_true (show (i : Int) = 2 by omega), eq_false (show ¬ (j : Int) = 4 by omega), B17.at, B17.2.1]
          refine effS_app1o (by simp only [e_psz]) oT (x := varA [95] 0) (cs := [.int .i64 4, .int .i64 0, str [95], .int .i64 0]) rep_varA rfl rfl (by simp only [e_psz]; omega) (by omega) fun a3 n3 c3 u3 h3 o3 s3 b3 => ⟨by simp (disch := first | omega | (simp only [e_ssz, e_psz, e_hszs, List.length_cons, List.length_nil]; try omega; done)) only [go_sem], ?_⟩
          have Q16 := B17.step s3 (fun hj => by have := oA.ge hj; omega)
          have s4 := (s2.trans0 sT).own s3 (fun k hk => by have := oA.ge hk; omega)
          have sw : Step (fun k => k = r) u3 h3 u3 (hset h3 r 2 (.slice a3 n3 c3)) := Step.set u3 h3 _ rfl (by rw [Q16.2.2.2.1]; exact Nat.zero_le _)
          have R16 := Q16.set (i := 2) (v := .slice a3 n3 c3) (by simp)
          have q16 := Q16.1
          have x16 := Q16.2.1
          have y16 := Q16.2.2.1
          simp (disch := first | omega | (simp only [e_ssz, e_psz, e_hszs, List.length_cons, List.length_nil]; try omega; done)) only [↓reduceIte, go_sem, e16, e17, x16, y16]
          refine ⟨j + 1, ?_, by omega⟩
          rw [hI]
          refine ⟨by simp [upd, e2], by simp [upd, e6], by simp [upd, e14], by simp [upd, e15], by simp [upd, e16], by simp [upd], hjt, u3, _, s4.own sw (fun k hk => by have hk : k = r := hk; omega), ?_, R16⟩
          rw [htk]
          exact o3.step sw (fun k hk e => by have := o3.ge hk; have e : k = r := e; omega)
        · skip
          have sT := Step.push0 S0 u2 h2 #[.int .i64 4, .int .i64 0, str [95], .int .i64 0] 94
          have oT := oA.step0 sT
          have B17 := B16.step0 sT
          have b17 := B17.1
          simp (disch := first | omega | (simp only [e_ssz, e_psz, e_hszs, List.length_cons, List.length_nil]; try omega; done)) only [↓reduceIte, go_sem, klSpoiler_L2, e15, e16, e17, eq_true (show (j : Int) < 6 by omega), eq_false (show ¬ (i : Int) = 2 by omega), B17.at, B17.2.1]
          refine effS_app1o (by simp only [e_psz]) oT (x := varA [95] 0) (cs := [.int .i64 4, .int .i64 0, str [95], .int .i64 0]) rep_varA rfl rfl (by simp only [e_psz]; omega) (by omega) fun a3 n3 c3 u3 h3 o3 s3 b3 => ⟨by simp (disch := first | omega | (simp only [e_ssz, e_psz, e_hszs, List.length_cons, List.length_nil]; try omega; done)) only [go_sem], ?_⟩
          have Q16 := B17.step s3 (fun hj => by have := oA.ge hj; omega)
          have s4 := (s2.trans0 sT).own s3 (fun k hk => by have := oA.ge hk; omega)
          have sw : Step (fun k => k = r) u3 h3 u3 (hset h3 r 2 (.slice a3 n3 c3)) := Step.set u3 h3 _ rfl (by rw [Q16.2.2.2.1]; exact Nat.zero_le _)
          have R16 := Q16.set (i := 2) (v := .slice a3 n3 c3) (by simp)
          have q16 := Q16.1
          have x16 := Q16.2.1
          have y16 := Q16.2.2.1
          simp (disch := first | omega | (simp only [e_ssz, e_psz, e_hszs, List.length_cons, List.length_nil]; try omega; done)) only [↓reduceIte, go_sem, e16, e17, x16, y16]
          refine ⟨j + 1, ?_, by omega⟩
          rw [hI]
          refine ⟨by simp [upd, e2], by simp [upd, e6], by simp [upd, e14], by simp [upd, e15], by simp [upd, e16], by simp [upd], hjt, u3, _, s4.own sw (fun k hk => by have hk : k = r := hk; omega), ?_, R16⟩
          rw [htk]
          exact o3.step sw (fun k hk e => by have := o3.ge hk; have e : k = r := e; omega)
    · obtain rfl : j = 6 := by omega
      have hA := oA.isSl
      obtain ⟨aa, ac, rfl, -, -⟩ := oA.sl
      have C6 := B6.step0 s2
      have C14 := B14.step0 s2
      have oC := oB.step0 s2
      have c14 := C14.1
      obtain ⟨ba, bc, rfl, -, -⟩ := oC.sl
      have htk : (bodI b).take (i + 1) = (bodI b).take i ++ [posA (z6, argI b i, 0)] := by rw [List.take_add_one, hbg]; rfl
      have hoL : ((bodI b).take i).length = i := by rw [List.length_take]; show min i 3 = i; omega
      have hrep := rep_posA (a := (z6, (argI b i).take 6, 0)) hA
      simp (disch := first | omega | (simp only [e_ssz, e_psz, e_hszs, List.length_cons, List.length_nil]; try omega; done)) only [↓reduceIte, go_sem, klSpoiler_L2, e14, e16, e17, C14.at, C14.2.1, B16.at, B16.2.1]
      refine effS_app1o rfl oC (x := posA (z6, (argI b i).take 6, 0)) hrep rfl rfl (by omega) (by omega) fun a3 n3 c3 u3 h3 o3 s3 b3 => ⟨by simp (disch := first | omega | (simp only [e_ssz, e_psz, e_hszs, List.length_cons, List.length_nil]; try omega; done)) only [go_sem], ?_⟩
      have Q14 := C14.step s3 (fun hj => by have := oC.ge hj; omega)
      have Q6 := C6.step s3 (fun hj => by have := oC.ge hj; omega)
      have s4 := (st.trans0 s2).own s3 (fun k hk => by have := oC.ge hk; omega)
      have sw : Step (fun k => k = q) u3 h3 u3 (hset h3 q 3 (.slice a3 n3 c3)) := Step.set u3 h3 _ rfl (by rw [Q14.2.2.2.1]; exact Nat.zero_le _)
      have R14 := Q14.set (i := 3) (v := .slice a3 n3 c3) (by simp)
      have q14 := Q14.1
      have x14 := Q14.2.1
      have y14 := Q14.2.2.1
      simp (disch := first | omega | (simp only [e_ssz, e_psz, e_hszs, List.length_cons, List.length_nil]; try omega; done)) only [↓reduceIte, go_sem, e14, e15, x14, y14]
      refine ⟨i + 1, ?_, by omega⟩
      rw [hJ]
      refine ⟨by simp [upd, e2], by simp [upd, e6], by simp [upd, e14], by simp [upd], hlt, u3, _, s4.own sw (fun k hk => by have hk : k = q := hk; omega), ?_, Q6.step sw (fun e => by have e : p = q := e; omega), R14⟩
      rw [htk]
      exact o3.step sw (fun k hk e => by have := o3.ge hk; have e : k = q := e; omega)
  · obtain rfl : i = 3 := by omega
    have hB := oB.isSl
    obtain ⟨ba, bc, rfl, -, -⟩ := oB.sl
    have hl3 : ((bodI b).take 3).length = 3 := rfl
    rw [hl3] at B14 hB
    have hB3 : IsSl u1 h1 (.slice ba 3 bc) (bodI b) := hB
    have sW : Step (fun j => j = p) u1 h1 u1 (hsets h1 p 0 [str [122, 48], .slice none 0 0, .int .i64 0, .slice ba 3 bc]) := Step.sets u1 h1 _ rfl (by rw [B6.2.2.2.1]; exact Nat.le_refl _) (by rw [B6.2.1]; exact Nat.le_refl _)
    have Bw : Blk u1 (hsets h1 p 0 [str [122, 48], .slice none 0 0, .int .i64 0, .slice ba 3 bc]) p [str [122, 48], .slice none 0 0, .int .i64 0, .slice ba 3 bc] := B6.sets rfl
    simp (disch := first | omega | (simp only [e_ssz, e_psz, e_hszs, List.length_cons, List.length_nil]; try omega; done)) only [↓reduceIte, go_sem, klSpoiler_L1, e2, e6, e14, e15, B14.at, B14.2.1, B6.2.1, B6.2.2.1, Bw.at, Bw.2.1]
    exact hK _ _ _ (st.own sW (fun j e => by have e : j = p := e; omega)) (rep_clause.mpr ⟨_, _, rfl, IsSl.nil _ _, hB3.mono sW.ge⟩)
end Go.Proofs.Ytkobamedfbgjbaa
