/- The laws' helpers: head, begun, ended, moved. -/
import Derived.Test.YtbkpmdgeeolifaaDoorLexL
namespace Edict
/-- A text that begins with the name a. -/
def headF (s : List UInt8) : List UInt8 := 97 :: 32 :: s.take 65534
def aT : Tok := (1, [97], 0, 0, 0, 1)
def endT (n : Nat) : Tok := (0, [], 0, 0, n, n)
theorem headF_len (s : List UInt8) : (headF s).length ≤ 65536 ∧ 2 ≤ (headF s).length := by unfold headF; simp; omega
/-- A sound list: the one end token is the last. -/
def Ended (l : List Tok) (n : Nat) : Prop := ∃ r, l = r ++ [endT n] ∧ ∀ t ∈ r, t.1 ≠ 0
theorem head_0 (s : List UInt8) : bat (headF s) 0 = 97 := rfl
theorem head_1 (s : List UInt8) : bat (headF s) 1 = 32 := rfl
theorem head_gap (s : List UInt8) : gapF (headF s) 0 = (0, true) := by
  refine gap_else ?_ ?_ ?_
  · rw [head_0]; decide
  · rw [head_0]; decide
  · unfold pr; rw [head_0]; simp
theorem head_run (s : List UInt8) : runF (headF s) 0 = 1 := by
  have := (headF_len s).2
  rw [runF_on (by omega) (by rw [head_0]; decide), runF_stop (by rw [head_1]; intro h; exact absurd h.2 (by decide))]
theorem head_next (s : List UInt8) : nextF (headF s) 0 = .ok aT := by
  have := (headF_len s).2
  have hs : sub (headF s) 0 1 = [97] := by simp [sub, headF]
  unfold nextF
  rw [head_gap]
  simp only [if_true]
  unfold tokF
  rw [if_neg (by omega), head_0, if_neg (by decide), if_neg (fun q => absurd q.1 (by decide)), if_pos (by decide)]
  unfold wordF
  rw [head_run, hs, head_0]
  rfl
theorem head_scan (s : List UInt8) : scanF (headF s) = (aT :: (scanK (headF s) 1).1, (scanK (headF s) 1).2) := by
  have := (headF_len s).1
  unfold scanF
  rw [if_neg (by omega)]
  exact scanK_on (k := 0) (by omega) (head_next s) (by decide)
end Edict
namespace Go.Proofs.YtbkpmdgeeolifaaDoor
open Go Go.Ev Edict
def C_head (vs : List Value) (h : H) (K : Value → H → Prop) : Prop := ∃ s : List UInt8, vs = [str s] ∧ s.length ≤ 9223372036854775807 ∧ K (str (headF s)) h
theorem lwHead_ok {vs : List Value} {h : H} {K : Value → H → Prop} {KP : List PanicEntry → H → Prop} (hC : C_head vs h K) : HCX Tryd.prog 22 vs h K KP := by
  obtain ⟨s, rfl, hl, hK⟩ := hC
  have hm := mlen'
  refine lwHead_H (fun _ _ _ _ _ => False) (fun _ _ _ _ _ h => h.elim) _ ?_
  by_cases hc : 65534 < s.length
  · simp (disch := first | omega | (simp only [e_ssz, e_psz, e_hszs, List.length_cons, List.length_nil]; try omega; done)) only [↓reduceIte, go_sem, lwHead_S, lwHead_E, eq_true (show (65534 : Int) < (s.length : Nat) by omega)]
    exact ⟨by omega, by have := List.length_take_le 65534 s; omega, hK⟩
  · have e : headF s = 97 :: 32 :: s := by unfold headF; rw [List.take_of_length_le (by omega)]
    rw [e] at hK
    simp (disch := first | omega | (simp only [e_ssz, e_psz, e_hszs, List.length_cons, List.length_nil]; try omega; done)) only [↓reduceIte, go_sem, lwHead_S, lwHead_E, eq_false (show ¬ (65534 : Int) < (s.length : Nat) by omega)]
    exact ⟨by omega, hK⟩
def C_begun (vs : List Value) (h : H) (K : Value → H → Prop) : Prop := ∃ (u : U) (v : Value) (l : List Tok), vs = [v] ∧ IsSl u h v (aT :: l) ∧ K (.bool true) h
theorem lwBegun_ok {vs : List Value} {h : H} {K : Value → H → Prop} {KP : List PanicEntry → H → Prop} (hC : C_begun vs h K) : HCX Tryd.prog 23 vs h K KP := by
  obtain ⟨u, v, l, rfl, hv, hK⟩ := hC
  obtain ⟨va, vc, rfl, q1, q2⟩ := hv.sl
  have hm := mlen'
  obtain ⟨pb, po, rfl, hpb, hpu, hpz, hpr⟩ := hv.row 0 aT rfl
  rw [rep_tok] at hpr
  simp only [tokE, sz_tok, hvs_6, List.cons.injEq, and_true, aT, Nat.zero_mul, Nat.add_zero] at hpr hpu hpz
  obtain ⟨p0, p1, p2, p3, p4, p5⟩ := hpr
  refine lwBegun_H (fun _ _ _ _ _ => False) (fun _ _ _ _ _ h => h.elim) _ ?_
  have hlen : (aT :: l).length = l.length + 1 := rfl
  simp only [hlen] at q1 ⊢
  simp (disch := first | omega | (simp only [e_ssz, e_psz, e_hszs, List.length_cons, List.length_nil]; try omega; done)) only [↓reduceIte, go_sem, lwBegun_S, lwBegun_E, p0, p1, p2, p3, p4, p5, eq_true (show (0 : Int) < ((l.length + 1 : Nat) : Int) by omega)]
  exact hK
def C_ended (vs : List Value) (h : H) (K : Value → H → Prop) : Prop := ∃ (u : U) (v : Value) (l : List Tok) (c : Int) (o n : Nat), vs = [v, .agg (fltE c o).toArray, .int .i64 n] ∧ IsSl u h v l ∧ (c ≠ 0 ∨ c = 0 ∧ o = 0 ∧ Ended l n) ∧ ∀ u' h', Step S0 u h u' h' → K (.bool (decide (c = 0))) h'
theorem lwEnded_ok {vs : List Value} {h : H} {K : Value → H → Prop} {KP : List PanicEntry → H → Prop} (hC : C_ended vs h K) : HCX Tryd.prog 24 vs h K KP := by
  obtain ⟨u, v, l, c, o, n, rfl, hv, hx, hK⟩ := hC
  obtain ⟨va, vc, rfl, q1, q2⟩ := hv.sl
  have hm := mlen'
  refine lwEnded_H (fun _ _ _ _ _ => False) (fun _ _ _ _ _ h => h.elim) _ _ _ ?_
  have sp := Step.push0 S0 u h (fltE c o).toArray 25
  have hK' := hK _ _ sp
  have hv' := hv.mono sp.ge
  by_cases hc : c = 0
  case neg =>
    rw [decide_eq_false hc] at hK'
    simp only [fltE] at hK' hv' ⊢
    simp (disch := first | omega | (simp only [e_ssz, e_psz, e_hszs, List.length_cons, List.length_nil]; try omega; done)) only [↓reduceIte, go_sem, lwEnded_S, lwEnded_E, hc]
    exact hK'
  obtain ⟨-, rfl, r, rfl, hr⟩ : c = 0 ∧ o = 0 ∧ Ended l n := hx.resolve_left (fun q => q hc)
  subst hc
  have hlen : (r ++ [endT n]).length = r.length + 1 := by simp
  simp only [hlen, fltE, decide_true] at q1 hv' hK' ⊢
  simp (disch := first | omega | (simp only [e_ssz, e_psz, e_hszs, List.length_cons, List.length_nil]; try omega; done)) only [↓reduceIte, go_sem, lwEnded_S, lwEnded_E, eq_false (show ¬ ((r.length + 1 : Nat) : Int) = 0 by omega)]
  obtain ⟨h1, hh1⟩ : ∃ h1, h1 = h.push (.cells #[Value.int .i64 0, Value.int .i64 0, Value.int .i64 ((0 : Nat) : Int)] 25) := ⟨_, rfl⟩
  rw [← hh1] at hK' hv'
  rw [show ((0 : Nat) : Int) = 0 from rfl] at hh1
  rw [← hh1]
  obtain ⟨I, hI⟩ : ∃ I : Nat → Env → H → Prop, I = fun j σ h' => σ 0 = .slice va (r.length + 1) vc ∧ σ 2 = .int .i64 n ∧ σ 7 = .int .i64 j ∧ j ≤ r.length ∧ h' = h1 := ⟨_, rfl⟩
  refine wpS_loop I (fun j => r.length - j) 0 (by rw [hI]; exact ⟨by simp [upd], by simp [upd], by simp [upd], by omega, rfl⟩) ?_
  intro j σ h' hy
  rw [hI] at hy
  obtain ⟨e0, e2, e7, hj, rfl⟩ := hy
  by_cases hlt : j < r.length
  · have hx : (r ++ [endT n])[j]? = some r[j] := by rw [List.getElem?_append_left hlt]; simp
    have hk := hr r[j] (List.getElem_mem hlt)
    obtain ⟨x, hxx⟩ : ∃ x, x = r[j] := ⟨_, rfl⟩
    rw [← hxx] at hx hk
    obtain ⟨pb, po, rfl, hpb, hpu, hpz, hpr⟩ := hv'.row j x hx
    rw [rep_tok] at hpr
    simp only [tokE, sz_tok, hvs_6, List.cons.injEq, and_true] at hpr hpu hpz
    obtain ⟨p0, p1, p2, p3, p4, p5⟩ := hpr
    simp (disch := first | omega | (simp only [e_ssz, e_psz, e_hszs, List.length_cons, List.length_nil]; try omega; done)) only [↓reduceIte, go_sem, lwEnded_L1, e0, e7, p0, hk, eq_true (show ((j : Int) + 1) < ((r.length + 1 : Nat) : Int) by omega)]
    refine ⟨j + 1, ?_, by omega⟩
    rw [hI]
    exact ⟨by simp [upd, e0], by simp [upd, e2], by simp [upd], hlt, rfl⟩
  · obtain rfl : j = r.length := by omega
    have hx : (r ++ [endT n])[r.length]? = some (endT n) := by simp
    obtain ⟨pb, po, rfl, hpb, hpu, hpz, hpr⟩ := hv'.row _ _ hx
    rw [rep_tok] at hpr
    simp only [tokE, sz_tok, hvs_6, List.cons.injEq, and_true, endT] at hpr hpu hpz
    obtain ⟨p0, p1, p2, p3, p4, p5⟩ := hpr
    simp (disch := first | omega | (simp only [e_ssz, e_psz, e_hszs, List.length_cons, List.length_nil]; try omega; done)) only [↓reduceIte, go_sem, lwEnded_L1, e0, e2, e7, p0, p1, p2, p3, p4, p5, eq_false (show ¬ ((r.length : Int) + 1) < ((r.length + 1 : Nat) : Int) by omega), show ((r.length + 1 : Nat) : Int) - 1 = (r.length : Nat) by omega, eq_true (show r.length < r.length + 1 by omega)]
    exact hK'
def C_moved (vs : List Value) (h : H) (K : Value → H → Prop) : Prop := ∃ (u : U) (c : Int) (v : List UInt8) (n p : Int) (o e o2 e2 : Nat), vs = [.agg (tokE (c, v, n, p, o, e)).toArray, .agg (tokE (c, v, n, p, o2, e2)).toArray] ∧ o ≤ e ∧ o2 ≤ e2 ∧ e ≤ 65536 ∧ e2 ≤ 65536 ∧ e - o = e2 - o2 ∧ ∀ u' h', Step S0 u h u' h' → K (.bool true) h'
theorem lwMoved_ok {vs : List Value} {h : H} {K : Value → H → Prop} {KP : List PanicEntry → H → Prop} (hC : C_moved vs h K) : HCX Tryd.prog 25 vs h K KP := by
  obtain ⟨u, c, v, n, p, o, e, o2, e2, rfl, h1, h2, h3, h4, h5, hK⟩ := hC
  refine lwMoved_H (fun _ _ _ _ _ => False) (fun _ _ _ _ _ h => h.elim) _ _ ?_
  have s1 := Step.push0 S0 u h (tokE (c, v, n, p, o, e)).toArray 30
  have s2 := s1.trans0 (Step.push0 S0 _ _ (tokE (c, v, n, p, o2, e2)).toArray 30)
  have B1 := (Blk.new (u := u) (h := h) (tokE (c, v, n, p, o, e)) 30).pushR (c := (tokE (c, v, n, p, o2, e2)).toArray) (t := 30)
  have B2 := Blk.new (u := ub u h.size 0) (h := h.push (.cells (tokE (c, v, n, p, o, e)).toArray 30)) (tokE (c, v, n, p, o2, e2)) 30
  have hK' := hK _ _ s2
  simp only [tokE, e_psz] at hK' B1 B2 ⊢
  obtain ⟨h1', hh1⟩ : ∃ h1, h1 = (h.push (.cells #[Value.int .i64 c, str v, Value.int .i64 n, Value.int .i64 p, Value.int .i64 (o : Int), Value.int .i64 (e : Int)] 30)).push (.cells #[Value.int .i64 c, str v, Value.int .i64 n, Value.int .i64 p, Value.int .i64 (o2 : Int), Value.int .i64 (e2 : Int)] 30) := ⟨_, rfl⟩
  have hd : (e : Int) - (o : Int) = (e2 : Int) - (o2 : Int) := by omega
  rw [← hh1] at hK' B1 B2
  simp (disch := first | omega | (simp only [e_ssz, e_psz, e_hszs, List.length_cons, List.length_nil]; try omega; done)) only [↓reduceIte, go_sem, lwMoved_S, lwMoved_E, B1.at, B1.2.1, B2.at, B2.2.1, hd, ← hh1]
  trace_state
  exact hK'
end Go.Proofs.YtbkpmdgeeolifaaDoor
