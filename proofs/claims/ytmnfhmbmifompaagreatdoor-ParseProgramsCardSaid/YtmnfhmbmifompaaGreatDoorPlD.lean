/- The laws ParseQueries and ParsePrograms. -/
import Derived.Test.YtmnfhmbmifompaaGreatDoorPlC
import Derived.Test.YtmnfhmbmifompaaGreatDoorPsQy
import Derived.Test.YtmnfhmbmifompaaGreatDoorPrP
namespace Go.Proofs.YtmnfhmbmifompaaGreatDoor
open Go Go.Ev Edict
def resQuery (src : List UInt8) : List LitT × Flt := match parseF queryD src with | .error e => ([], e) | .ok a => (a, (0, 0))
def C_pQueryU (vs : List Value) (h : H) (K : Value → H → Prop) : Prop := ∃ (u : U) (src : List UInt8), vs = [str src] ∧ src.length ≤ 9223372036854775807 ∧ LxG u h ∧ ∀ u' h' w, Step S0 u h u' h' → Own h.size u' h' w (resQuery src).1 → K (.tuple #[w, fltV (resQuery src).2]) h'
def C_rQueryU (vs : List Value) (h : H) (K : Value → H → Prop) : Prop := ∃ (u : U) (src : List UInt8), vs = [str src] ∧ src.length ≤ 9223372036854775807 ∧ ∀ u' h' w, Step S0 u h u' h' → Own h.size u' h' w (resQuery src).1 → K (.tuple #[w, fltV (resQuery src).2]) h'
theorem psQueryU_ok {vs : List Value} {h : H} {K : Value → H → Prop} {KP : List PanicEntry → H → Prop} (hC : C_pQueryU vs h K) : HCX Tryz.prog 5 vs h K KP := by
  obtain ⟨u, src, rfl, hl, hG, hK⟩ := hC
  refine psQuery_ok ⟨u, src, rfl, hl, hG, fun e he u' h' s => ?_, fun a ha u' h' w s o => ?_⟩
  · have hr : resQuery src = ([], e) := by unfold resQuery; rw [he]
    rw [hr] at hK
    exact hK u' h' _ s (.nil _ _ _)
  · have hr : resQuery src = (a, (0, 0)) := by unfold resQuery; rw [ha]
    rw [hr] at hK
    exact hK u' h' _ s o
theorem rpQueryU_ok {vs : List Value} {h : H} {K : Value → H → Prop} {KP : List PanicEntry → H → Prop} (hC : C_rQueryU vs h K) : HCX Tryz.prog 6 vs h K KP := by
  obtain ⟨u, src, rfl, hl, hK⟩ := hC
  refine rpQuery_ok ⟨u, src, rfl, hl, fun e he u' h' s => ?_, fun a ha u' h' w s o => ?_⟩
  · have hr : resQuery src = ([], e) := by unfold resQuery; rw [he]
    rw [hr] at hK
    exact hK u' h' _ s (.nil _ _ _)
  · have hr : resQuery src = (a, (0, 0)) := by unfold resQuery; rw [ha]
    rw [hr] at hK
    exact hK u' h' _ s o
def G_QueriesL : Ctr := fun f vs h K _ => (f = 5 ∧ C_pQueryU vs h K) ∨ (f = 6 ∧ C_rQueryU vs h K) ∨ (f = 7 ∧ C_sBody vs h K)
theorem G_QueriesL_ok : GOk Tryz.prog G_QueriesL := by
  rintro f vs h K KP (⟨rfl, hC⟩ | ⟨rfl, hC⟩ | ⟨rfl, hC⟩)
  · exact psQueryU_ok hC
  · exact rpQueryU_ok hC
  · exact plSameBody_ok hC
theorem ParseQueries_ok {vs : List Value} {h : H} {K : Value → H → Prop} {KP : List PanicEntry → H → Prop} (hC : C_law1 vs h K) : HCX Tryz.prog 3 vs h K KP := by
  obtain ⟨u, src, rfl, hl, hG, hK⟩ := hC
  refine ParseQueries_H G_QueriesL G_QueriesL_ok _ ?_
  simp (disch := first | omega | (simp only [e_ssz, e_psz, e_hszs, List.length_cons, List.length_nil]; try omega; done)) only [↓reduceIte, go_sem, ParseQueries_S, ParseQueries_E]
  refine effS_call (.inl ⟨rfl, u, src, rfl, hl, hG, fun u1 h1 w1 s1 o1 => ⟨by simp (disch := first | omega | (simp only [e_ssz, e_psz, e_hszs, List.length_cons, List.length_nil]; try omega; done)) only [go_sem], ?_⟩⟩)
  obtain ⟨l, hl'⟩ : ∃ l, l = (resQuery src).1 := ⟨_, rfl⟩
  obtain ⟨f, hf⟩ : ∃ f, f = (resQuery src).2 := ⟨_, rfl⟩
  rw [← hl'] at o1
  rw [← hf]
  obtain ⟨a1, c1, rfl, m1, m2⟩ := o1.sl
  simp only [fltV]
  obtain ⟨h3, h4, u4, hh3, hh4, B3, B4, s4, hz4⟩ := boxed u1 h1 [.int .i64 0, .int .i64 0, .int .i64 0] [.int .i64 f.1, .int .i64 0, .int .i64 f.2] 25 rfl
  have B31 := B3.1
  have B41 := B4.1
  simp (disch := first | omega | (simp only [e_ssz, e_psz, e_hszs, List.length_cons, List.length_nil]; try omega; done)) only [↓reduceIte, go_sem, ← hh3, ← hh4, B3.2.1, B3.2.2.1]
  have o4 := o1.step0 s4
  refine effS_call (.inr (.inl ⟨rfl, u4, src, rfl, hl, fun u5 h5 w5 s5 o5 => ⟨by simp (disch := first | omega | (simp only [e_ssz, e_psz, e_hszs, List.length_cons, List.length_nil]; try omega; done)) only [go_sem], ?_⟩⟩))
  rw [← hl'] at o5
  rw [← hf]
  obtain ⟨a5, c5, rfl, n1, n2⟩ := o5.sl
  simp only [fltV]
  obtain ⟨h6, h7, u7, hh6, hh7, B6, B7, s7, hz7⟩ := boxed u5 h5 [.int .i64 0, .int .i64 0, .int .i64 0] [.int .i64 f.1, .int .i64 0, .int .i64 f.2] 25 rfl
  have D4 := (B4.step0 s5).step0 s7
  have i4 := ((o4.step0 s5).step0 s7).isSl
  have j4 := (o5.step0 s7).isSl
  have st := (((s1.trans0 s4).trans0 s5).trans0 s7)
  have B61 := B6.1
  have B71 := B7.1
  have D41 := D4.1
  simp (disch := first | omega | (simp only [e_ssz, e_psz, e_hszs, List.length_cons, List.length_nil]; try omega; done)) only [↓reduceIte, go_sem, ← hh6, ← hh7, B6.2.1, B6.2.2.1, B7.at, B7.2.1, D4.at, D4.2.1]
  refine effS_call (.inr (.inr ⟨rfl, u7, _, _, l, rfl, i4, j4, fun u8 h8 s8 => ⟨by simp (disch := first | omega | (simp only [e_ssz, e_psz, e_hszs, List.length_cons, List.length_nil]; try omega; done)) only [go_sem], ?_⟩⟩))
  simp (disch := first | omega | (simp only [e_ssz, e_psz, e_hszs, List.length_cons, List.length_nil]; try omega; done)) only [↓reduceIte, go_sem]
  exact hK _ _ (st.trans0 s8)
theorem ParseQueries_hc {s : List UInt8} {h : H} (hl : s.length ≤ 9223372036854775807) (hG : LxG (hsz h) h) : HCX Tryz.prog 3 [str s] h (fun v h' => v = .bool true ∧ Ext0 h h') fun _ _ => False :=
  ParseQueries_ok ⟨hsz h, s, rfl, hl, hG, fun u' h' st => ⟨rfl, st.ext⟩⟩
def resProg (src : List UInt8) : List ClauseT × Flt := match parseF (fun b l => progD b [] l) src with | .error e => ([], e) | .ok a => (a, (0, 0))
def C_pProgU (vs : List Value) (h : H) (K : Value → H → Prop) : Prop := ∃ (u : U) (src : List UInt8), vs = [str src] ∧ src.length ≤ 9223372036854775807 ∧ LxG u h ∧ ∀ u' h' w, Step S0 u h u' h' → Own h.size u' h' w (resProg src).1 → K (.tuple #[.agg #[w], fltV (resProg src).2]) h'
def C_rProgU (vs : List Value) (h : H) (K : Value → H → Prop) : Prop := ∃ (u : U) (src : List UInt8), vs = [str src] ∧ src.length ≤ 9223372036854775807 ∧ ∀ u' h' w, Step S0 u h u' h' → Own h.size u' h' w (resProg src).1 → K (.tuple #[.agg #[w], fltV (resProg src).2]) h'
theorem psProgU_ok {vs : List Value} {h : H} {K : Value → H → Prop} {KP : List PanicEntry → H → Prop} (hC : C_pProgU vs h K) : HCX Tryz.prog 8 vs h K KP := by
  obtain ⟨u, src, rfl, hl, hG, hK⟩ := hC
  refine psProgram_ok ⟨u, src, rfl, hl, hG, fun e he u' h' s => ?_, fun a ha u' h' w s o => ?_⟩
  · have hr : resProg src = ([], e) := by unfold resProg; rw [he]
    rw [hr] at hK
    exact hK u' h' _ s (.nil _ _ _)
  · have hr : resProg src = (a, (0, 0)) := by unfold resProg; rw [ha]
    rw [hr] at hK
    exact hK u' h' _ s o
theorem rpProgU_ok {vs : List Value} {h : H} {K : Value → H → Prop} {KP : List PanicEntry → H → Prop} (hC : C_rProgU vs h K) : HCX Tryz.prog 9 vs h K KP := by
  obtain ⟨u, src, rfl, hl, hK⟩ := hC
  refine rpProgram_ok ⟨u, src, rfl, hl, fun e he u' h' s => ?_, fun a ha u' h' w s o => ?_⟩
  · have hr : resProg src = ([], e) := by unfold resProg; rw [he]
    rw [hr] at hK
    exact hK u' h' _ s (.nil _ _ _)
  · have hr : resProg src = (a, (0, 0)) := by unfold resProg; rw [ha]
    rw [hr] at hK
    exact hK u' h' _ s o
def G_ProgsL : Ctr := fun f vs h K _ => (f = 8 ∧ C_pProgU vs h K) ∨ (f = 9 ∧ C_rProgU vs h K) ∨ (f = 10 ∧ C_sClauses vs h K)
theorem G_ProgsL_ok : GOk Tryz.prog G_ProgsL := by
  rintro f vs h K KP (⟨rfl, hC⟩ | ⟨rfl, hC⟩ | ⟨rfl, hC⟩)
  · exact psProgU_ok hC
  · exact rpProgU_ok hC
  · exact plSameClauses_ok hC
theorem ParsePrograms_ok {vs : List Value} {h : H} {K : Value → H → Prop} {KP : List PanicEntry → H → Prop} (hC : C_law1 vs h K) : HCX Tryz.prog 4 vs h K KP := by
  obtain ⟨u, src, rfl, hl, hG, hK⟩ := hC
  refine ParsePrograms_H G_ProgsL G_ProgsL_ok _ ?_
  simp (disch := first | omega | (simp only [e_ssz, e_psz, e_hszs, List.length_cons, List.length_nil]; try omega; done)) only [↓reduceIte, go_sem, ParsePrograms_S, ParsePrograms_E]
  refine effS_call (.inl ⟨rfl, u, src, rfl, hl, hG, fun u1 h1 w1 s1 o1 => ⟨by simp (disch := first | omega | (simp only [e_ssz, e_psz, e_hszs, List.length_cons, List.length_nil]; try omega; done)) only [go_sem], ?_⟩⟩)
  obtain ⟨l, hl'⟩ : ∃ l, l = (resProg src).1 := ⟨_, rfl⟩
  obtain ⟨f, hf⟩ : ∃ f, f = (resProg src).2 := ⟨_, rfl⟩
  rw [← hl'] at o1
  rw [← hf]
  obtain ⟨a1, c1, rfl, m1, m2⟩ := o1.sl
  simp only [fltV]
  simp (disch := first | omega | (simp only [e_ssz, e_psz, e_hszs, List.length_cons, List.length_nil]; try omega; done)) only [↓reduceIte, go_sem]
  have sA := (Step.push0 S0 u1 h1 #[.slice a1 l.length c1] 32).trans0 (Step.push0 S0 _ _ #[.int .i64 f.1, .int .i64 0, .int .i64 f.2] 25)
  have B1 := (Blk.new (u := u1) (h := h1) [.slice a1 l.length c1] 32).pushR (c := #[.int .i64 f.1, .int .i64 0, .int .i64 f.2]) (t := 25)
  have B2 := Blk.new (u := ub u1 h1.size 0) (h := h1.push (.cells #[.slice a1 l.length c1] 32)) [.int .i64 f.1, .int .i64 0, .int .i64 f.2] 25
  have i2 := o1.isSl.mono sA.ge
  obtain ⟨h2, hh2⟩ : ∃ h2, h2 = (h1.push (.cells #[.slice a1 l.length c1] 32)).push (.cells #[.int .i64 f.1, .int .i64 0, .int .i64 f.2] 25) := ⟨_, rfl⟩
  obtain ⟨u2, hu2⟩ : ∃ u2, u2 = ub (ub u1 h1.size 0) (h1.push (.cells #[.slice a1 l.length c1] 32)).size 0 := ⟨_, rfl⟩
  have B2' : Blk u2 h2 (h1.size + 1) [.int .i64 f.1, .int .i64 0, .int .i64 f.2] := by rw [hu2, hh2]; simpa using B2
  rw [← hh2, ← hu2] at B1 i2 sA
  rw [← hh2]
  clear B2 hh2 hu2
  have st2 := s1.trans0 sA
  refine effS_call (.inr (.inl ⟨rfl, u2, src, rfl, hl, fun u3 h3 w3 s3 o3 => ⟨by simp (disch := first | omega | (simp only [e_ssz, e_psz, e_hszs, List.length_cons, List.length_nil]; try omega; done)) only [go_sem], ?_⟩⟩))
  rw [← hl'] at o3
  rw [← hf]
  obtain ⟨a3, c3, rfl, n1, n2⟩ := o3.sl
  have B13 := B1.step0 s3
  have B23 := B2'.step0 s3
  have i3 := i2.mono s3.ge
  have st3 := st2.trans0 s3
  simp only [fltV]
  have sB := (Step.push0 S0 u3 h3 #[.slice a3 l.length c3] 32).trans0 (Step.push0 S0 _ _ #[.int .i64 f.1, .int .i64 0, .int .i64 f.2] 25)
  have D1 := (Blk.new (u := u3) (h := h3) [.slice a3 l.length c3] 32).pushR (c := #[.int .i64 f.1, .int .i64 0, .int .i64 f.2]) (t := 25)
  have D2 := Blk.new (u := ub u3 h3.size 0) (h := h3.push (.cells #[.slice a3 l.length c3] 32)) [.int .i64 f.1, .int .i64 0, .int .i64 f.2] 25
  obtain ⟨h4, hh4⟩ : ∃ h4, h4 = (h3.push (.cells #[.slice a3 l.length c3] 32)).push (.cells #[.int .i64 f.1, .int .i64 0, .int .i64 f.2] 25) := ⟨_, rfl⟩
  obtain ⟨u4, hu4⟩ : ∃ u4, u4 = ub (ub u3 h3.size 0) (h3.push (.cells #[.slice a3 l.length c3] 32)).size 0 := ⟨_, rfl⟩
  have D2' : Blk u4 h4 (h3.size + 1) [.int .i64 f.1, .int .i64 0, .int .i64 f.2] := by rw [hu4, hh4]; simpa using D2
  rw [← hh4, ← hu4] at D1 sB
  clear D2
  have B14 := B13.step0 sB
  have B24 := B23.step0 sB
  have i4 := i3.mono sB.ge
  have j4 := o3.isSl.mono sB.ge
  have st4 := st3.trans0 sB
  have x1 := B14.1
  have x2 := B24.1
  have x3 := D1.1
  have x4 := D2'.1
  simp (disch := first | omega | (simp only [e_ssz, e_psz, e_hszs, List.length_cons, List.length_nil]; try omega; done)) only [↓reduceIte, go_sem, ← hh4, B14.at, B14.2.1, B24.at, B24.2.1, D1.at, D1.2.1, D2'.at, D2'.2.1]
  refine effS_call (.inr (.inr ⟨rfl, u4, _, _, l, rfl, i4, j4, fun u5 h5 s5 => ⟨by simp (disch := first | omega | (simp only [e_ssz, e_psz, e_hszs, List.length_cons, List.length_nil]; try omega; done)) only [go_sem], ?_⟩⟩))
  simp (disch := first | omega | (simp only [e_ssz, e_psz, e_hszs, List.length_cons, List.length_nil]; try omega; done)) only [↓reduceIte, go_sem]
  exact hK _ _ (st4.trans0 s5)
theorem ParsePrograms_hc {s : List UInt8} {h : H} (hl : s.length ≤ 9223372036854775807) (hG : LxG (hsz h) h) : HCX Tryz.prog 4 [str s] h (fun v h' => v = .bool true ∧ Ext0 h h') fun _ _ => False :=
  ParsePrograms_ok ⟨hsz h, s, rfl, hl, hG, fun u' h' st => ⟨rfl, st.ext⟩⟩
end Go.Proofs.YtmnfhmbmifompaaGreatDoor
