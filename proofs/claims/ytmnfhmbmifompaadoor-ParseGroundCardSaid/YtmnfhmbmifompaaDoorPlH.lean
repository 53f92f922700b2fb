/- The law ParseGround. -/
import Derived.Test.YtmnfhmbmifompaaDoorPlG
namespace Go.Proofs.YtmnfhmbmifompaaDoor
open Go Go.Ev Edict
def G_GroundL : Ctr := fun f vs h K _ => (f = 28 ∧ C_pProgU vs h K) ∨ (f = 22 ∧ C_pFacsU vs h K) ∨ (f = 40 ∧ C_ground vs h K) ∨ (f = 29 ∧ C_taken vs h K) ∨ (f = 41 ∧ C_sAtom vs h K)
theorem G_GroundL_ok : GOk Tryd.prog G_GroundL := by
  rintro f vs h K KP (⟨rfl, hC⟩ | ⟨rfl, hC⟩ | ⟨rfl, hC⟩ | ⟨rfl, hC⟩ | ⟨rfl, hC⟩)
  · exact psProgU_ok hC
  · exact psFacsU_ok hC
  · exact plGround_ok hC
  · exact plTaken_ok hC
  · exact plSameAtom_ok hC
def gndT : S := sS (sS (sS (sS ParseGround_S)))
theorem gnd_cut : ParseGround_S = .seq (sF ParseGround_S) (.seq (sF (sS ParseGround_S)) (.seq (sF (sS (sS ParseGround_S))) (.seq (sF (sS (sS (sS ParseGround_S)))) gndT))) := rfl
theorem ParseGround_ok {vs : List Value} {h : H} {K : Value → H → Prop} {KP : List PanicEntry → H → Prop} (hC : C_law1 vs h K) : HCX Tryd.prog 10 vs h K KP := by
  obtain ⟨u, src, rfl, hl, hG, hK⟩ := hC
  refine ParseGround_H G_GroundL G_GroundL_ok _ ?_
  rw [gnd_cut]
  simp (disch := first | omega | (simp only [e_ssz, e_psz, e_hszs, List.length_cons, List.length_nil]; try omega; done)) only [↓reduceIte, go_sem, sF, sS, ParseGround_S, ParseGround_E]
  refine effS_call (.inl ⟨rfl, u, src, rfl, hl, hG, fun u1 h1 w1 s1 o1 => ⟨by simp (disch := first | omega | (simp only [e_ssz, e_psz, e_hszs, List.length_cons, List.length_nil]; try omega; done)) only [go_sem], ?_⟩⟩)
  have hup := @ground_up src
  have hdn := @ground_down src
  have hfc : (resProg src).2 = (0, 0) ∨ (resProg src).2.1 ≠ 0 := by
    rcases resProg_cases src with ⟨e, q, hne, -⟩ | ⟨a, q, -⟩
    · exact .inr (by rw [q]; exact hne)
    · exact .inl (by rw [q])
  have hgc : (resFacs src).2 = (0, 0) ∨ (resFacs src).2.1 ≠ 0 := by
    rcases resFacs_cases src with ⟨e, q, hne, -⟩ | ⟨a, q, -⟩
    · exact .inr (by rw [q]; exact hne)
    · exact .inl (by rw [q])
  have hcl := resProg_len src
  have hfl := resFacs_len src
  obtain ⟨P, hP⟩ : ∃ P, P = resProg src := ⟨_, rfl⟩
  obtain ⟨F, hF⟩ : ∃ F, F = resFacs src := ⟨_, rfl⟩
  rw [← hP] at o1 hup hdn hfc hcl
  rw [← hP]
  rw [← hF] at hup hdn hgc hfl
  obtain ⟨cs, f⟩ := P
  simp only at o1 hup hdn hfc hcl ⊢
  obtain ⟨a1, c1, rfl, m1, m2⟩ := o1.sl
  simp only [fltV]
  obtain ⟨u2, s2, B1, B2⟩ := two_new (u := u1) (h := h1) [.slice a1 cs.length c1] [.int .i64 f.1, .int .i64 0, .int .i64 f.2] 60 27
  obtain ⟨h2, hh2⟩ : ∃ h2, h2 = (h1.push (.cells #[.slice a1 cs.length c1] 60)).push (.cells #[.int .i64 f.1, .int .i64 0, .int .i64 f.2] 27) := ⟨_, rfl⟩
  rw [← hh2] at s2 B1 B2
  have i2 := o1.isSl.mono s2.ge
  have st2 := s1.trans0 s2
  simp (disch := first | omega | (simp only [e_ssz, e_psz, e_hszs, List.length_cons, List.length_nil]; try omega; done)) only [↓reduceIte, go_sem, ← hh2]
  refine effS_call (.inr (.inl ⟨rfl, u2, src, rfl, hl, hG.mono st2.ge, fun u3 h3 w3 s3 o3 => ⟨by simp (disch := first | omega | (simp only [e_ssz, e_psz, e_hszs, List.length_cons, List.length_nil]; try omega; done)) only [go_sem], ?_⟩⟩))
  rw [← hF] at o3 ⊢
  clear hP hF hh2
  obtain ⟨fs, g⟩ := F
  simp only at o3 hup hdn hgc hfl ⊢
  obtain ⟨a3, c3, rfl, n1, n2⟩ := o3.sl
  simp only [fltV]
  have s4 := Step.push0 S0 u3 h3 #[.int .i64 g.1, .int .i64 0, .int .i64 g.2] 27
  have B6 := Blk.new (u := u3) (h := h3) [.int .i64 g.1, .int .i64 0, .int .i64 g.2] 27
  obtain ⟨h4, hh4⟩ : ∃ h4, h4 = h3.push (.cells #[.int .i64 g.1, .int .i64 0, .int .i64 g.2] 27) := ⟨_, rfl⟩
  obtain ⟨u4, hu4⟩ : ∃ u4, u4 = ub u3 h3.size 0 := ⟨_, rfl⟩
  have B6' : Blk u4 h4 h3.size [.int .i64 g.1, .int .i64 0, .int .i64 g.2] := by rw [hu4, hh4]; exact B6
  rw [← hh4, ← hu4] at s4
  clear B6
  have D3 := (B1.step0 s3).step0 s4
  have D4 := (B2.step0 s3).step0 s4
  have i4 := (i2.mono s3.ge).mono s4.ge
  have j4 := o3.isSl.mono s4.ge
  have st4 := (st2.trans0 s3).trans0 s4
  have x3 := D3.1
  have x4 := D4.1
  have x6 := B6'.1
  obtain ⟨b3, hb3⟩ : ∃ b3, b3 = h1.size := ⟨_, rfl⟩
  obtain ⟨b4, hb4⟩ : ∃ b4, b4 = b3 + 1 := ⟨_, rfl⟩
  obtain ⟨b6, hb6⟩ : ∃ b6, b6 = h3.size := ⟨_, rfl⟩
  rw [← hb3] at D3 x3
  rw [← hb3, ← hb4] at D4 x4
  rw [← hb6] at B6' x6
  have tl : ∀ (σ : Env) (u' : U) (h' : H), σ 3 = .pointer (some ⟨b3, 0, none⟩) → σ 4 = .pointer (some ⟨b4, 0, none⟩) → σ 5 = .slice a3 fs.length c3 → σ 6 = .pointer (some ⟨b6, 0, none⟩) → Step S0 u4 h4 u' h' → wpS G_GroundL gndT (retQ ParseGround_E (callK K KP)) σ h' := by
    clear s1 s2 s3 B1 B2 o1 o3 i2 st2 x3 x4 x6 s4
    intro σ u' h' e3 e4 e5 e6 s'
    have D3' := D3.step0 s'
    have D4' := D4.step0 s'
    have D6' := B6'.step0 s'
    have i' := i4.mono s'.ge
    have j' := j4.mono s'.ge
    have st' := st4.trans0 s'
    have x3 := D3'.1
    have x4 := D4'.1
    have x6 := D6'.1
    rcases hfc with rfl | hf
    case inr =>
      simp (disch := first | omega | (simp only [e_ssz, e_psz, e_hszs, List.length_cons, List.length_nil]; try omega; done)) only [↓reduceIte, go_sem, gndT, sS, ParseGround_S, ParseGround_E, e3, e4, D3'.at, D4'.at, D4'.2.1, eq_false hf]
      refine effS_call (.inr (.inr (.inr (.inl ⟨rfl, u', rfl, hG.mono st'.ge, fun u8 h8 s8 => ⟨by simp (disch := first | omega | (simp only [e_ssz, e_psz, e_hszs, List.length_cons, List.length_nil]; try omega; done)) only [go_sem], ?_⟩⟩))))
      simp (disch := first | omega | (simp only [e_ssz, e_psz, e_hszs, List.length_cons, List.length_nil]; try omega; done)) only [↓reduceIte, go_sem]
      exact hK _ _ (st'.trans0 s8)
    simp (disch := first | omega | (simp only [e_ssz, e_psz, e_hszs, List.length_cons, List.length_nil]; try omega; done)) only [↓reduceIte, go_sem, gndT, sS, ParseGround_S, ParseGround_E, e3, e4, D3'.at, D3'.2.1, D4'.at, D4'.2.1]
    refine effS_call (.inr (.inr (.inl ⟨rfl, u', _, cs, rfl, i', fun u8 h8 s8 => ⟨by simp (disch := first | omega | (simp only [e_ssz, e_psz, e_hszs, List.length_cons, List.length_nil]; try omega; done)) only [go_sem], ?_⟩⟩)))
    have st8 := st'.trans0 s8
    cases hgd : groundF cs with
    | false =>
      simp (disch := first | omega | (simp only [e_ssz, e_psz, e_hszs, List.length_cons, List.length_nil]; try omega; done)) only [↓reduceIte, go_sem]
      refine effS_call (.inr (.inr (.inr (.inl ⟨rfl, u8, rfl, hG.mono st8.ge, fun u9 h9 s9 => ⟨by simp (disch := first | omega | (simp only [e_ssz, e_psz, e_hszs, List.length_cons, List.length_nil]; try omega; done)) only [go_sem], ?_⟩⟩))))
      simp (disch := first | omega | (simp only [e_ssz, e_psz, e_hszs, List.length_cons, List.length_nil]; try omega; done)) only [↓reduceIte, go_sem]
      exact hK _ _ (st8.trans0 s9)
    | true =>
      have hd := hdn rfl hgd
      obtain ⟨rfl, rfl⟩ := Prod.mk.inj hd
      have hml : (cs.map (·.1)).length = cs.length := List.length_map _
      simp only [hml] at e5 j' n1 ⊢
      have D38 := D3'.step0 s8
      have D68 := D6'.step0 s8
      have i8 := i'.mono s8.ge
      have j8 := j'.mono s8.ge
      have x38 := D38.1
      have x68 := D68.1
      simp (disch := first | omega | (simp only [e_ssz, e_psz, e_hszs, List.length_cons, List.length_nil]; try omega; done)) only [↓reduceIte, go_sem, e3, e5, e6, D38.at, D38.2.1, D68.at, D68.2.1]
      obtain ⟨I, hI⟩ : ∃ I : Nat → Env → H → Prop, I = fun k σ' h'' => ∃ u'', σ' 3 = .pointer (some ⟨b3, 0, none⟩) ∧ σ' 5 = .slice a3 cs.length c3 ∧ σ' 59 = .int .i64 (cs.length : Nat) ∧ σ' 60 = .int .i64 k ∧ k ≤ cs.length ∧ Step S0 u8 h8 u'' h'' := ⟨_, rfl⟩
      refine wpS_loop I (fun j => cs.length - j) 0 (by rw [hI]; exact ⟨u8, by simp [upd, e3], by simp [upd, e5], by simp [upd], by simp [upd], by omega, Step.refl _ _ _⟩) ?_
      clear D3' D4' D6' i' j' x3 x4 x6 D68 x68 x38
      intro k σ' h'' hy
      rw [hI] at hy
      obtain ⟨u'', f3, f5, f59, f60, hk, sl⟩ := hy
      have st9 := st8.trans0 sl
      by_cases hlt : k < cs.length
      case neg =>
        simp (disch := first | omega | (simp only [e_ssz, e_psz, e_hszs, List.length_cons, List.length_nil]; try omega; done)) only [↓reduceIte, go_sem, ParseGround_L1, f59, f60, eq_false (show ¬ (k : Int) < (cs.length : Nat) by omega)]
        refine effS_call (.inr (.inr (.inr (.inl ⟨rfl, u'', rfl, hG.mono st9.ge, fun u9 h9 s9 => ⟨by simp (disch := first | omega | (simp only [e_ssz, e_psz, e_hszs, List.length_cons, List.length_nil]; try omega; done)) only [go_sem], ?_⟩⟩))))
        simp (disch := first | omega | (simp only [e_ssz, e_psz, e_hszs, List.length_cons, List.length_nil]; try omega; done)) only [↓reduceIte, go_sem]
        exact hK _ _ (st9.trans0 s9)
      obtain ⟨x, hx⟩ : ∃ x, cs[k]? = some x := ⟨cs[k], by simp [hlt]⟩
      have D39 := D38.step0 sl
      have x39 := D39.1
      have i9 := i8.mono sl.ge
      have j9 := j8.mono sl.ge
      obtain ⟨pb, po, rfl, hpb, hpu, hpz, hpr⟩ := i9.row k x hx
      obtain ⟨qb, qo, rfl, hqb, hqu, hqz, hqr⟩ := j9.row k x.1 (by rw [List.getElem?_map, hx]; rfl)
      rw [rep_clause] at hpr
      rw [rep_atom] at hqr
      obtain ⟨xv, xb, hpr, ixv, ixb⟩ := hpr
      obtain ⟨xw, hqr, ixw⟩ := hqr
      obtain ⟨xa, xc, rfl, -, -⟩ := ixv.sl
      obtain ⟨ya, yc, rfl, -, -⟩ := ixw.sl
      simp only [sz_clause, sz_atom, hvs_4, hvs_3, List.cons.injEq, and_true] at hpr hpu hpz hqr hqu hqz
      obtain ⟨p0, p1, p2, p3⟩ := hpr
      obtain ⟨q0, q1, q2⟩ := hqr
      simp (disch := first | omega | (simp only [e_ssz, e_psz, e_hszs, List.length_cons, List.length_nil]; try omega; done)) only [↓reduceIte, go_sem, ParseGround_L1, f3, f5, f59, f60, eq_true (show (k : Int) < (cs.length : Nat) by omega), D39.at, D39.2.1, p0, p1, p2, q0, q1, q2]
      refine effS_call (.inr (.inr (.inr (.inr ⟨rfl, u'', x.1.1, _, _, x.1.2.1, x.1.2.2, rfl, ixw, ixv, fun u9 h9 s9 => ⟨by simp (disch := first | omega | (simp only [e_ssz, e_psz, e_hszs, List.length_cons, List.length_nil]; try omega; done)) only [go_sem], ?_⟩⟩))))
      simp (disch := first | omega | (simp only [e_ssz, e_psz, e_hszs, List.length_cons, List.length_nil]; try omega; done)) only [↓reduceIte, go_sem, f60]
      refine ⟨k + 1, ?_, by omega⟩
      rw [hI]
      refine ⟨u9, ?_, ?_, ?_, ?_, hlt, sl.trans0 s9⟩ <;> simp [upd, f3, f5, f59]
  rcases hgc with hg0 | hg
  · have hg1 : g.1 = 0 := by rw [hg0]
    have hg2 : g.2 = 0 := by rw [hg0]
    by_cases h5 : fs.length ≤ 512
    · obtain ⟨hf0, hgd⟩ := hup hg0 h5
      subst hf0
      simp (disch := first | omega | (simp only [e_ssz, e_psz, e_hszs, List.length_cons, List.length_nil]; try omega; done)) only [↓reduceIte, go_sem, ← hb3, ← hb4, ← hh4, ← hb6, B6'.at, B6'.2.1, D4.at, D4.2.1, D3.at, D3.2.1, eq_true hg1, eq_true hg2, eq_true (show ((fs.length : Nat) : Int) ≤ 512 by omega)]
      refine effS_call (.inr (.inr (.inl ⟨rfl, u4, _, cs, rfl, i4, fun u8 h8 s8 => ⟨by simp (disch := first | omega | (simp only [e_ssz, e_psz, e_hszs, List.length_cons, List.length_nil]; try omega; done)) only [go_sem], ?_⟩⟩)))
      rw [hgd]
      simp (disch := first | omega | (simp only [e_ssz, e_psz, e_hszs, List.length_cons, List.length_nil]; try omega; done)) only [↓reduceIte, go_sem]
      exact tl _ _ _ (by simp [upd]) (by simp [upd]) (by simp [upd]) (by simp [upd]) s8
    · simp (disch := first | omega | (simp only [e_ssz, e_psz, e_hszs, List.length_cons, List.length_nil]; try omega; done)) only [↓reduceIte, go_sem, ← hb3, ← hb4, ← hh4, ← hb6, B6'.at, B6'.2.1, D4.at, D3.at, eq_true hg1, eq_true hg2, eq_false (show ¬ ((fs.length : Nat) : Int) ≤ 512 by omega)]
      exact tl _ _ _ (by simp [upd]) (by simp [upd]) (by simp [upd]) (by simp [upd]) (Step.refl _ _ _)
  · simp (disch := first | omega | (simp only [e_ssz, e_psz, e_hszs, List.length_cons, List.length_nil]; try omega; done)) only [↓reduceIte, go_sem, ← hb3, ← hb4, ← hh4, ← hb6, B6'.at, B6'.2.1, D4.at, D3.at, eq_false hg]
    exact tl _ _ _ (by simp [upd]) (by simp [upd]) (by simp [upd]) (by simp [upd]) (Step.refl _ _ _)
theorem ParseGround_hc {s : List UInt8} {h : H} (hl : s.length ≤ 9223372036854775807) (hG : LxG (hsz h) h) : HCX Tryd.prog 10 [str s] h (fun v h' => v = .bool true ∧ Ext0 h h') fun _ _ => False :=
  ParseGround_ok ⟨hsz h, s, rfl, hl, hG, fun u' h' st => ⟨rfl, st.ext⟩⟩
end Go.Proofs.YtmnfhmbmifompaaDoor
