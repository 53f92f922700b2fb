/- The law ParseSpells. -/
import Derived.Test.YtmnfhmbmifompaaDoorPlM
namespace Edict
theorem spells_err {src : List UInt8} {e : Flt} (h : parseF (fun b l => progD b [] l) src = .error e) : ErrOk (badF src) (scanF src).1 e := by
  unfold parseF at h
  by_cases h6 : 65536 < src.length
  · rw [if_pos h6] at h
    cases h
    left
    unfold badF scanF
    rw [if_pos h6]; rfl
  · rw [if_neg h6] at h
    exact prog_err _ _ _ _ (Nat.le_refl _) h
theorem spells_ok {src : List UInt8} {cs : List ClauseT} (h : parseF (fun b l => progD b [] l) src = .ok cs) : badF src = (0, 0) ∧ ProgOk cs (scanF src).1 := by
  unfold parseF at h
  by_cases h6 : 65536 < src.length
  · rw [if_pos h6] at h; cases h
  · rw [if_neg h6] at h
    obtain ⟨h1, ys, e, h2⟩ := prog_ok _ _ [] cs (Nat.le_refl _) (by simp) (good_src (by omega)) h
    rw [List.nil_append] at e
    subst e
    exact ⟨h1, h2⟩
/-- The walk's state, over all clauses. -/
def SpOk (src : List UInt8) (P : List ClauseT × Flt) : Prop := (P.2.1 ≠ 0 ∧ P.1 = [] ∧ refusedF (scanF src).1 (badF src) P.2 = true) ∨ (P.2 = (0, 0) ∧ badF src = (0, 0) ∧ ProgOk P.1 (scanF src).1)
theorem sp_ok (src : List UInt8) : SpOk src (resProg src) := by
  rcases resProg_cases src with ⟨e, h, hne, hp⟩ | ⟨a, h, hp⟩
  · rw [h]; exact .inl ⟨hne, rfl, refused_of (spells_err hp) hne⟩
  · rw [h]; exact .inr ⟨rfl, spells_ok hp⟩
end Edict
namespace Go.Proofs.YtmnfhmbmifompaaDoor
open Go Go.Ev Edict
def G_Spells : Ctr := fun f vs h K _ => (f = 31 ∧ C_scan vs h K) ∨ (f = 28 ∧ C_pProgU vs h K) ∨ (f = 32 ∧ C_refd vs h K) ∨ (f = 29 ∧ C_taken vs h K) ∨ (f = 33 ∧ C_wAtom vs h K) ∨ (f = 34 ∧ C_eat vs h K) ∨ (f = 35 ∧ C_wBody vs h K)
theorem G_Spells_ok : GOk Tryd.prog G_Spells := by
  rintro f vs h K KP (⟨rfl, hC⟩ | ⟨rfl, hC⟩ | ⟨rfl, hC⟩ | ⟨rfl, hC⟩ | ⟨rfl, hC⟩ | ⟨rfl, hC⟩ | ⟨rfl, hC⟩)
  · exact lxScan_ok hC
  · exact psProgU_ok hC
  · exact plRefused_ok hC
  · exact plTaken_ok hC
  · exact plWAtom_ok hC
  · exact plEat_ok hC
  · exact plWBody_ok hC
theorem ParseSpells_ok {vs : List Value} {h : H} {K : Value → H → Prop} {KP : List PanicEntry → H → Prop} (hC : C_law1 vs h K) : HCX Tryd.prog 6 vs h K KP := by
  obtain ⟨u, src, rfl, hl, hG, hK⟩ := hC
  refine ParseSpells_H G_Spells G_Spells_ok _ ?_
  simp (disch := first | omega | (simp only [e_ssz, e_psz, e_hszs, List.length_cons, List.length_nil]; try omega; done)) only [↓reduceIte, go_sem, ParseSpells_S, ParseSpells_E]
  refine effS_call (.inl ⟨rfl, u, src, rfl, hl, hG, fun u1 h1 w1 s1 o1 => ⟨by simp (disch := first | omega | (simp only [e_ssz, e_psz, e_hszs, List.length_cons, List.length_nil]; try omega; done)) only [go_sem], ?_⟩⟩)
  have hsp := sp_ok src
  have hcl := resProg_len src
  have hwf := @scan_wf src
  have hLl := scanF_len src
  unfold SpOk badF at hsp
  obtain ⟨L, hL⟩ : ∃ L, L = (scanF src).1 := ⟨_, rfl⟩
  obtain ⟨c, hc⟩ : ∃ c, c = (scanF src).2.1 := ⟨_, rfl⟩
  obtain ⟨p, hp⟩ : ∃ p, p = (scanF src).2.2 := ⟨_, rfl⟩
  rw [← hL, ← hc, ← hp] at hsp
  rw [← hL] at hwf hLl o1
  rw [← hc, ← hp]
  obtain ⟨a1, c1, rfl, m1, m2⟩ := o1.sl
  simp only [fltE]
  have s2 := Step.push0 S0 u1 h1 #[.int .i64 c, .int .i64 0, .int .i64 (p : Nat)] 27
  have B4 := Blk.new (u := u1) (h := h1) [.int .i64 c, .int .i64 0, .int .i64 (p : Nat)] 27
  obtain ⟨h2, hh2⟩ : ∃ h2, h2 = h1.push (.cells #[.int .i64 c, .int .i64 0, .int .i64 (p : Nat)] 27) := ⟨_, rfl⟩
  obtain ⟨u2, hu2⟩ : ∃ u2, u2 = ub u1 h1.size 0 := ⟨_, rfl⟩
  rw [← hh2, ← hu2] at s2 B4
  have i2 := o1.isSl.mono s2.ge
  have st2 := s1.trans0 s2
  simp (disch := first | omega | (simp only [e_ssz, e_psz, e_hszs, List.length_cons, List.length_nil]; try omega; done)) only [↓reduceIte, go_sem, ← hh2]
  refine effS_call (.inr (.inl ⟨rfl, u2, src, rfl, hl, hG.mono st2.ge, fun u3 h3 w3 s3 o3 => ⟨by simp (disch := first | omega | (simp only [e_ssz, e_psz, e_hszs, List.length_cons, List.length_nil]; try omega; done)) only [go_sem], ?_⟩⟩))
  obtain ⟨P, hP⟩ : ∃ P, P = resProg src := ⟨_, rfl⟩
  rw [← hP] at o3 hsp hcl ⊢
  obtain ⟨cs, f⟩ := P
  simp only at o3 hsp hcl ⊢
  obtain ⟨a3, c3, rfl, n1, n2⟩ := o3.sl
  simp only [fltV]
  obtain ⟨u4, s4, B5, B6⟩ := two_new (u := u3) (h := h3) [.slice a3 cs.length c3] [.int .i64 f.1, .int .i64 0, .int .i64 f.2] 60 27
  obtain ⟨h4, hh4⟩ : ∃ h4, h4 = (h3.push (.cells #[.slice a3 cs.length c3] 60)).push (.cells #[.int .i64 f.1, .int .i64 0, .int .i64 f.2] 27) := ⟨_, rfl⟩
  rw [← hh4] at s4 B5 B6
  have D4 := (B4.step0 s3).step0 s4
  have i4 := (i2.mono s3.ge).mono s4.ge
  have j4 := o3.isSl.mono s4.ge
  have st4 := (st2.trans0 s3).trans0 s4
  have x4 := D4.1
  have x5 := B5.1
  have x6 := B6.1
  rcases hsp with ⟨hne, hcs, href⟩ | ⟨hf, hown, hok⟩
  · have hcs0 : cs.length = 0 := by rw [hcs]; rfl
    simp (disch := first | omega | (simp only [e_ssz, e_psz, e_hszs, List.length_cons, List.length_nil]; try omega; done)) only [↓reduceIte, go_sem, ← hh4, B5.at, B5.2.1, B6.at, B6.2.1, D4.at, D4.2.1, eq_false hne, eq_true (show ((cs.length : Nat) : Int) = 0 by omega)]
    refine effS_call (.inr (.inr (.inl ⟨rfl, u4, _, L, (c, (p : Int)), f, rfl, i4, href, fun u5 h5 s5 => ⟨by simp (disch := first | omega | (simp only [e_ssz, e_psz, e_hszs, List.length_cons, List.length_nil]; try omega; done)) only [go_sem], ?_⟩⟩)))
    have st5 := st4.trans0 s5
    simp (disch := first | omega | (simp only [e_ssz, e_psz, e_hszs, List.length_cons, List.length_nil]; try omega; done)) only [↓reduceIte, go_sem]
    refine effS_call (.inr (.inr (.inr (.inl ⟨rfl, u5, rfl, hG.mono st5.ge, fun u6 h6 s6 => ⟨by simp (disch := first | omega | (simp only [e_ssz, e_psz, e_hszs, List.length_cons, List.length_nil]; try omega; done)) only [go_sem], ?_⟩⟩))))
    simp (disch := first | omega | (simp only [e_ssz, e_psz, e_hszs, List.length_cons, List.length_nil]; try omega; done)) only [↓reduceIte, go_sem]
    exact hK _ _ (st5.trans0 s6)
  · have hf1 : f.1 = 0 := by rw [hf]
    have hf2 : f.2 = 0 := by rw [hf]
    have hc0 : c = 0 := (Prod.mk.inj hown).1
    have s5 := Step.push0 S0 u4 h4 #[.slice a1 L.length c1, .int .i64 0, .bool true] 72
    have W5 := Blk.new (u := u4) (h := h4) [.slice a1 L.length c1, .int .i64 0, .bool true] 72
    obtain ⟨h5, hh5⟩ : ∃ h5, h5 = h4.push (.cells #[.slice a1 L.length c1, .int .i64 0, .bool true] 72) := ⟨_, rfl⟩
    obtain ⟨u5, hu5⟩ : ∃ u5, u5 = ub u4 h4.size 0 := ⟨_, rfl⟩
    rw [← hh5, ← hu5] at s5 W5
    have hW5 : WkB u5 h5 h4.size (.slice a1 L.length c1) L 0 := ⟨W5, by omega, i4.mono s5.ge, hLl⟩
    have j5 := j4.mono s5.ge
    have B55 := B5.step0 s5
    have B551 := B55.1
    have st5 := st4.trans0 s5
    have hz4 := st4.ge.sz
    obtain ⟨wb, hwb⟩ : ∃ wb, wb = h4.size := ⟨_, rfl⟩
    rw [← hwb] at hW5
    simp (disch := first | omega | (simp only [e_ssz, e_psz, e_hszs, List.length_cons, List.length_nil]; try omega; done)) only [↓reduceIte, go_sem, ← hh4, B5.at, B5.2.1, B6.at, B6.2.1, D4.at, D4.2.1, eq_true hf1, eq_true hf2, eq_true hc0, eq_true (show ((cs.length : Nat) : Int) ≤ 512 by omega), ← hh5, ← hwb, B55.at, B55.2.1]
    have hwz : h.size ≤ wb := by omega
    obtain ⟨I, hI⟩ : ∃ I : Nat → Env → H → Prop, I = fun k σ h' => ∃ (u' : U) (j : Nat), σ 3 = .slice a1 L.length c1 ∧ σ 7 = .pointer (some ⟨wb, 0, none⟩) ∧ σ 49 = .slice a3 cs.length c3 ∧ σ 50 = .int .i64 (cs.length : Nat) ∧ σ 51 = .int .i64 k ∧ k ≤ cs.length ∧ Step S0 u h u' h' ∧ WkB u' h' wb (.slice a1 L.length c1) L j ∧ IsSl u' h' (.slice a3 cs.length c3) cs ∧ ProgOk (cs.drop k) (L.drop j) := ⟨_, rfl⟩
    refine wpS_loop I (fun j => cs.length - j) 0 (by rw [hI]; exact ⟨u5, 0, by simp [upd], by simp [upd], by simp [upd], by simp [upd], by simp [upd], by omega, st5, hW5, j5, by rw [List.drop_zero, List.drop_zero]; exact hok⟩) ?_
    clear B5 B6 D4 x4 x5 x6 hh4 hh5 W5 s5 i4 j4 st4 hok hh2 B4 i2 s4 s2 o3 s3 o1 s1 st2 B55 B551 hW5 j5 st5
    intro k σ h' hy
    rw [hI] at hy
    obtain ⟨u', j, e3, e7, e49, e50, e51, hk, st, hWj, ij, hpo⟩ := hy
    have hz := st.ge.sz
    have hwj := hWj.1.1
    by_cases hlt : k < cs.length
    case neg =>
      rw [List.drop_eq_nil_of_le (by omega)] at hpo
      obtain ⟨e, he, he0⟩ := hpo
      simp (disch := first | omega | (simp only [e_ssz, e_psz, e_hszs, List.length_cons, List.length_nil]; try omega; done)) only [↓reduceIte, go_sem, ParseSpells_L1, e7, e50, e51, eq_false (show ¬ (k : Int) < (cs.length : Nat) by omega)]
      refine effS_call (.inr (.inr (.inr (.inr (.inr (.inl ⟨rfl, u', wb, _, L, j, e, [], by rw [he0], hWj, he, fun u6 h6 s6 hW6 => ⟨by simp (disch := first | omega | (simp only [e_ssz, e_psz, e_hszs, List.length_cons, List.length_nil]; try omega; done)) only [go_sem], ?_⟩⟩))))))
      have hjl : j + 1 = L.length := by
        have q1 := (drop_cons he).1
        have q2 := drop_nil (drop_cons he).2.2
        omega
      have hB6 := hW6.1
      have hB61 := hB6.1
      have st6 := st.trans s6 (fun b hb q => by omega)
      rw [hjl] at hB6
      simp (disch := first | omega | (simp only [e_ssz, e_psz, e_hszs, List.length_cons, List.length_nil]; try omega; done)) only [↓reduceIte, go_sem, e3, e7, hB6.at, hB6.2.1]
      refine effS_call (.inr (.inr (.inr (.inl ⟨rfl, u6, rfl, hG.mono st6.ge, fun u9 h9 s9 => ⟨by simp (disch := first | omega | (simp only [e_ssz, e_psz, e_hszs, List.length_cons, List.length_nil]; try omega; done)) only [go_sem], ?_⟩⟩))))
      simp (disch := first | omega | (simp only [e_ssz, e_psz, e_hszs, List.length_cons, List.length_nil]; try omega; done)) only [↓reduceIte, go_sem]
      exact hK _ _ (st6.trans0 s9)
    obtain ⟨x, hx⟩ : ∃ x, cs[k]? = some x := ⟨cs[k], by simp [hlt]⟩
    have hdk : cs.drop k = x :: cs.drop (k + 1) := by rw [List.drop_eq_getElem_cons hlt]; congr 1; rw [List.getElem?_eq_getElem hlt] at hx; exact Option.some.inj hx
    rw [hdk] at hpo
    obtain ⟨m, ⟨h8, n, hA, hrest⟩, hpo2⟩ := hpo
    obtain ⟨pb, po, rfl, hpb, hpu, hpz, hpr⟩ := ij.row k x hx
    rw [rep_clause] at hpr
    obtain ⟨xv, xb, hpr, ixv, ixb⟩ := hpr
    obtain ⟨xa, xc, rfl, -, -⟩ := ixv.sl
    obtain ⟨za, zc, rfl, -, -⟩ := ixb.sl
    simp only [sz_clause, hvs_4, List.cons.injEq, and_true] at hpr hpu hpz
    obtain ⟨p0, p1, p2, p3⟩ := hpr
    obtain ⟨h6, h7, u7, hh6, hh7, B6, B7, s7, hz7⟩ := boxed u' h' [str [], .slice none 0 0, .int .i64 0, .slice none 0 0] [str x.1.1, .slice xa x.1.2.1.length xc, .int .i64 x.1.2.2, .slice za x.2.length zc] 56 rfl
    have B61 := B6.1
    have B71 := B7.1
    have hW7 := hWj.step0 s7
    have st7 := st.trans0 s7
    have hne : h'.size ≠ wb := by omega
    have nx : ∀ (u9 : U) (h9 : H) (σ9 : Env) (i9 : Nat), σ9 3 = .slice a1 L.length c1 → σ9 7 = .pointer (some ⟨wb, 0, none⟩) → σ9 49 = .slice (some ⟨pb, po, none⟩) cs.length c3 → σ9 50 = .int .i64 (cs.length : Nat) → σ9 51 = .int .i64 ((k : Int) + 1) → Step (fun b => b = wb) u7 h7 u9 h9 → WkB u9 h9 wb (.slice a1 L.length c1) L i9 → L.drop i9 = m → ∃ y, I y σ9 h9 ∧ cs.length - y < cs.length - k := by
      intro u9 h9 σ9 i9 g3 g7 g49 g50 g51 s9 hW9 hd9
      refine ⟨k + 1, ?_, by omega⟩
      rw [hI]
      exact ⟨u9, i9, g3, g7, g49, g50, by rw [g51]; rfl, hlt, st7.trans s9 (fun b hb q => by omega), hW9, (ij.mono s7.ge).mono s9.ge, by rw [hd9]; exact hpo2⟩
    simp (disch := first | omega | (simp only [e_ssz, e_psz, e_hszs, List.length_cons, List.length_nil]; try omega; done)) only [↓reduceIte, go_sem, ParseSpells_L1, e7, e49, e50, e51, eq_true (show (k : Int) < (cs.length : Nat) by omega), p0, p1, p2, p3, ← hh6, ← hh7, B6.2.1, B6.2.2.1, B7.at, B7.2.1]
    refine effS_call (.inr (.inr (.inr (.inr (.inl ⟨rfl, u7, wb, _, L, j, x.1, _, n, rfl, hW7, ixv.mono s7.ge, h8, hA, hwf, fun u8 h8' v8 i8 s8 hW8 hd8 => ⟨by simp (disch := first | omega | (simp only [e_ssz, e_psz, e_hszs, List.length_cons, List.length_nil]; try omega; done)) only [go_sem], ?_⟩⟩)))))
    have B8 := B7.step s8 hne
    have B81 := B8.1
    rcases hrest with ⟨hx0, d, rfl, hd8'⟩ | ⟨hx0, h16, d, n', rfl, hd9', hBo⟩
    · have hl0 : x.2.length = 0 := by rw [hx0]; rfl
      simp (disch := first | omega | (simp only [e_ssz, e_psz, e_hszs, List.length_cons, List.length_nil]; try omega; done)) only [↓reduceIte, go_sem, B8.at, B8.2.1, e7, eq_true (show ((x.2.length : Nat) : Int) = 0 by omega)]
      refine effS_call (.inr (.inr (.inr (.inr (.inr (.inl ⟨rfl, u8, wb, _, L, i8, d, m, by rw [hd8'], hW8, hd8, fun u9 h9 s9 hW9 => ⟨by simp (disch := first | omega | (simp only [e_ssz, e_psz, e_hszs, List.length_cons, List.length_nil]; try omega; done)) only [go_sem], ?_⟩⟩))))))
      simp (disch := first | omega | (simp only [e_ssz, e_psz, e_hszs, List.length_cons, List.length_nil]; try omega; done)) only [↓reduceIte, go_sem, e51]
      exact nx u9 h9 _ (i8 + 1) (by simp [upd, e3]) (by simp [upd, e7]) (by simp [upd, e49]) (by simp [upd, e50]) (by simp [upd]) (s8.trans s9 (fun _ _ q => q)) hW9 (drop_cons hd8).2.2
    · have hl0 : 0 < x.2.length := List.length_pos_iff.2 hx0
      simp (disch := first | omega | (simp only [e_ssz, e_psz, e_hszs, List.length_cons, List.length_nil]; try omega; done)) only [↓reduceIte, go_sem, B8.at, B8.2.1, e7, eq_false (show ¬ ((x.2.length : Nat) : Int) = 0 by omega)]
      refine effS_call (.inr (.inr (.inr (.inr (.inr (.inl ⟨rfl, u8, wb, _, L, i8, d, n', by rw [hd9'], hW8, hd8, fun u9 h9 s9 hW9 => ⟨by simp (disch := first | omega | (simp only [e_ssz, e_psz, e_hszs, List.length_cons, List.length_nil]; try omega; done)) only [go_sem], ?_⟩⟩))))))
      have B9 := B8.step s9 hne
      have B91 := B9.1
      simp (disch := first | omega | (simp only [e_ssz, e_psz, e_hszs, List.length_cons, List.length_nil]; try omega; done)) only [↓reduceIte, go_sem, B9.at, B9.2.1, e7]
      refine effS_call (.inr (.inr (.inr (.inr (.inr (.inr ⟨rfl, u9, wb, _, L, i8 + 1, _, x.2, m, rfl, hW9, ((ixb.mono s7.ge).mono s8.ge).mono s9.ge, ⟨hl0, h16⟩, by rw [(drop_cons hd8).2.2]; exact hBo, hwf, fun u10 h10 v10 i10 s10 hW10 hd10 => ⟨by simp (disch := first | omega | (simp only [e_ssz, e_psz, e_hszs, List.length_cons, List.length_nil]; try omega; done)) only [go_sem], ?_⟩⟩))))))
      simp (disch := first | omega | (simp only [e_ssz, e_psz, e_hszs, List.length_cons, List.length_nil]; try omega; done)) only [↓reduceIte, go_sem, e51]
      exact nx u10 h10 _ i10 (by simp [upd, e3]) (by simp [upd, e7]) (by simp [upd, e49]) (by simp [upd, e50]) (by simp [upd]) ((s8.trans s9 (fun _ _ q => q)).trans s10 (fun _ _ q => q)) hW10 hd10
theorem ParseSpells_hc {s : List UInt8} {h : H} (hl : s.length ≤ 9223372036854775807) (hG : LxG (hsz h) h) : HCX Tryd.prog 6 [str s] h (fun v h' => v = .bool true ∧ Ext0 h h') fun _ _ => False :=
  ParseSpells_ok ⟨hsz h, s, rfl, hl, hG, fun u' h' st => ⟨rfl, st.ext⟩⟩
end Go.Proofs.YtmnfhmbmifompaaDoor
