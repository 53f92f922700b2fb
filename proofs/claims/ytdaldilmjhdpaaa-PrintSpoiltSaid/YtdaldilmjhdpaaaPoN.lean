/- PrintSpoilt: the law. -/
import Derived.Test.YtdaldilmjhdpaaaPoL
import Derived.Test.YtdaldilmjhdpaaaPoM
namespace Go.Ev
open Go Rep
theorem own_one {α : Type} [Rep α] {u : U} {h : H} {x : α} {cs : List Value} (t : TypeId) (hx : rep u h x cs) : Own h.size (ub u h.size (sz α)) (h.push (.cells cs.toArray t)) (.slice (some ⟨h.size, 0, none⟩) 1 1) [x] := by
  have hl := Rep.len hx
  have st := Step.push S0 u h cs.toArray t (sz α)
  refine .inr ⟨h.size, 1, rfl, Nat.le_refl _, by decide, Nat.le_refl _, by simp, by rw [e_hszpe rfl, hl, Nat.one_mul], e_hfrpe rfl, by simp [ub], fun i y hy => ?_⟩
  match i, hy with
  | 0, hy =>
    cases hy
    rw [hvs_rows (cs := cs) (fun m hm => ?_) hl]
    · exact Rep.mono st.ge hx
    · rw [e_hvpe rfl]; simp
  | i + 1, hy => simp at hy
theorem isSl_takeP {α : Type} [Rep α] {u : U} {h : H} {a : Option Addr} {n c : Nat} {l : List α} (hs : IsSl u h (.slice a n c) l) {k : Nat} (hk : k ≤ l.length) : IsSl u h (.slice a k c) (l.take k) := by
  obtain ⟨a', n', c', h1, h2, h3, h4, h5, h6⟩ := hs
  simp only [Value.slice.injEq] at h1
  obtain ⟨rfl, rfl, rfl⟩ := h1
  have hl : (l.take k).length = k := by rw [List.length_take]; omega
  refine ⟨a, k, c, rfl, hl.symm, by omega, h4, h5, fun hne => ?_⟩
  have hne' : l ≠ [] := fun e => hne (by rw [e]; simp)
  obtain ⟨b, o, e, hb, hu, hz, hr⟩ := h6 hne'
  have := Nat.mul_le_mul_right (Rep.sz α) hk
  refine ⟨b, o, e, hb, by rw [hl]; omega, by rw [hl]; omega, fun i x hx => hr i x ?_⟩
  rw [List.getElem?_take] at hx
  split at hx
  · exact hx
  · cases hx
end Go.Ev
namespace Go.Proofs.Ytdaldilmjhdpaaa
open Go Go.Ev Edict
def G_poLaw : Ctr := fun f vs h K _ => (f = 4 ∧ C_poMade vs h K) ∨ (f = 5 ∧ C_poClause vs h K) ∨ (f = 7 ∧ C_poMod vs h K) ∨ (f = 6 ∧ C_poSpo vs h K) ∨ (f = 8 ∧ C_poProg vs h K) ∨ (f = 9 ∧ C_data (vI wellW) vs h K) ∨ (f = 10 ∧ C_poProgB vs h K)
theorem G_poLaw_ok : GOk Try.prog G_poLaw := by
  rintro f vs h K KP (⟨rfl, hC⟩ | ⟨rfl, hC⟩ | ⟨rfl, hC⟩ | ⟨rfl, hC⟩ | ⟨rfl, hC⟩ | ⟨rfl, hC⟩ | ⟨rfl, hC⟩)
  · exact poMade_ok hC
  · exact poClause_ok hC
  · exact poMod_ok hC
  · exact poSpo_ok hC
  · exact poProg_ok hC
  · exact prWell_ok hC
  · exact poProgB_ok hC
theorem PrintSpoilt_hc {u : U} {h : H} {v w : Value} {p : List Clause} {hd : Atom} {way : Int} (hl : IsSl u h v p) (hhd : IsSl u h w hd.2.1) (hwp : Rep.wf p) (hwh : Rep.wf hd) (hS : ∀ c ∈ p, ClaS c) (hSh : AtomS hd) (hP : PowT u h) :
    HCX Try.prog 3 [.agg #[v], .agg #[str hd.1, w, .int .i64 hd.2.2], .int .i64 way] h (fun v h' => v = .bool true ∧ Ext0 h h') fun _ _ => False := by
  obtain ⟨la, lc, rfl, -, -⟩ := hl.sl
  obtain ⟨ha, hc, rfl, -, -⟩ := hhd.sl
  have hm := mlenP
  refine poLaw_H G_poLaw G_poLaw_ok _ _ _ ?_
  have s0 := Step.push0 S0 u h #[.slice la p.length lc] 24
  have s1 := Step.push0 S0 (ub u h.size 0) (h.push (.cells #[.slice la p.length lc] 24)) #[str hd.1, .slice ha hd.2.1.length hc, .int .i64 hd.2.2] 27
  have st1 := s0.trans0 s1
  simp (disch := first | omega | (simp only [e_ssz, e_psz, e_hszs, List.length_cons, List.length_nil]; try omega; done)) only [↓reduceIte, go_sem, poLaw_S, poLaw_E]
  refine effS_call (.inl ⟨rfl, _, hd, [str hd.1, .slice ha hd.2.1.length hc, .int .i64 hd.2.2], rfl, by rw [rep_atom]; exact ⟨_, rfl, hhd.mono st1.ge⟩, hSh, fun u2 h2 v2 s2 o2 => ⟨by simp (disch := first | omega | (simp only [e_ssz, e_psz, e_hszs, List.length_cons, List.length_nil]; try omega; done)) only [go_sem], ?_⟩⟩)
  obtain ⟨a, ha'⟩ : ∃ a, a = madM hd := ⟨_, rfl⟩
  have hoff : hd.2.2 = a.2.2 := by rw [ha']; rfl
  have hw0 : atomW a = 0 := by rw [ha']; exact mad_ok hd
  have hwf : Rep.wf a := by rw [ha']; exact wf_mad hwh
  rw [← ha'] at o2 ⊢
  rw [hoff]
  obtain ⟨xa, xc, rfl, -, -⟩ := o2.sl
  have B3 : Blk (ub u h.size 0) (h.push (.cells #[.slice la p.length lc] 24)) h.size [.slice la p.length lc] := Blk.new [.slice la p.length lc] _
  have st2 := st1.trans0 s2
  have C3 := (B3.step0 s1).step0 s2
  have s3 := Step.push0 S0 u2 h2 #[str a.1, .slice xa a.2.1.length xc, .int .i64 a.2.2, .slice none 0 0] 31
  have B7 := Blk.new (u := u2) (h := h2) [str a.1, .slice xa a.2.1.length xc, .int .i64 a.2.2, .slice none 0 0] 31
  have hcw : clauseW ((a, []) : Clause) = 0 := by unfold clauseW; simp only; rw [if_pos hw0, if_neg (by simp)]; rfl
  have o3 := o2.step0 s3
  have iA := o3.isSl
  simp (disch := first | omega | (simp only [e_ssz, e_psz, e_hszs, List.length_cons, List.length_nil]; try omega; done)) only [↓reduceIte, go_sem]
  refine effS_call (.inr (.inl ⟨rfl, _, (a, []), [str a.1, .slice xa a.2.1.length xc, .int .i64 a.2.2, .slice none 0 0], rfl, rep_clause.mpr ⟨_, _, rfl, iA, IsSl.nil _ _⟩, ⟨hwf, wfl (by show (0 : Nat) ≤ 1000000; decide) (fun x hx => nomatch hx)⟩, fun _ => rfl, (hP.mono st2.ge).mono s3.ge, fun u4 h4 t4 s4 ht4 => ⟨by simp (disch := first | omega | (simp only [e_ssz, e_psz, e_hszs, List.length_cons, List.length_nil]; try omega; done)) only [go_sem], ?_⟩⟩))
  have htn : t4 ≠ [] := fun e => (ht4.1 e) hcw
  have D7 := B7.step0 s4
  have D3 := (C3.step0 s3).step0 s4
  have o4 := o3.step0 s4
  have st4 := (st2.trans0 s3).trans0 s4
  have d7 := D7.1
  simp (disch := first | omega | (simp only [e_ssz, e_psz, e_hszs, List.length_cons, List.length_nil]; try omega; done)) only [↓reduceIte, go_sem, eq_false htn]
  obtain ⟨wn, hwn⟩ : ∃ wn : Nat, way % 12 = wn := ⟨(way % 12).toNat, by omega⟩
  have hw12 : wn < 12 := by omega
  obtain ⟨M, hM⟩ : ∃ M : Env → H → Prop, M = fun σ' h5 => σ' 3 = .pointer (some ⟨h.size, 0, none⟩) ∧ σ' 9 = .int .i64 (spoW wn) ∧ ∃ (u5 : U) (p8 : Nat) (l : List Value), Step S0 u h u5 h5 ∧ σ' 8 = .pointer (some ⟨p8, 0, none⟩) ∧ h.size ≤ p8 ∧ Blk u5 h5 p8 l ∧ Rep.rep u5 h5 (spoC a wn) l ∧ Blk u5 h5 h.size [.slice la p.length lc] := ⟨_, rfl⟩
  refine w_join M ?_ ?_
  · have hk4 : ∀ j, OwnB (.slice xa a.2.1.length xc) j → h.size < j ∧ j < h2.size := fun j hj => by
      have h1 := o2.ge hj
      have h2' := o2.lt hj
      simp only [e_psz] at h1
      omega
    have sZ := Step.push0 S0 u4 h4 #[str [], .slice none 0 0, .int .i64 0, .slice none 0 0] 31
    have Z8 := Blk.new (u := u4) (h := h4) [str [], .slice none 0 0, .int .i64 0, .slice none 0 0] 31
    have C7 := D7.step0 sZ
    have c7 := C7.1
    have z8 := Z8.1
    have hz24 : h2.size ≤ h4.size := Nat.le_trans s3.ge.sz s4.ge.sz
    have oZ := o4.step0 sZ
    have hk4s : (((h.push (.cells #[.slice la p.length lc] 24)).push (.cells #[str hd.1, .slice ha hd.2.1.length hc, .int .i64 hd.2.2] 27)).size) ≤ h4.size := Nat.le_trans s2.ge.sz hz24
    have hl8 : a.2.1.length ≤ 8 := by rw [ha']; show ((hd.2.1.take 8).map trmM).length ≤ 8; rw [List.length_map, List.length_take]; omega
    have fin : ∀ (σ' : Env) (u5 : U) (h5 : H) (p8 : Nat) (l : List Value) , Step (fun j => OwnB (.slice xa a.2.1.length xc) j ∨ h4.size ≤ j) u4 h4 u5 h5 → h.size ≤ p8 → σ' 3 = .pointer (some ⟨h.size, 0, none⟩) → σ' 8 = .pointer (some ⟨p8, 0, none⟩) → σ' 9 = .int .i64 (spoW wn) → Blk u5 h5 p8 l → Rep.rep u5 h5 (spoC a wn) l → M σ' h5 := fun σ' u5 h5 p8 l t q8 g3 g8 g9 qB qr => by
      rw [hM]
      refine ⟨g3, g9, u5, p8, l, st4.own t (fun j hj => ?_), g8, q8, qB, qr, D3.step t (fun hj => ?_)⟩
      · rcases hj with hj | hj
        · have := hk4 j hj; omega
        · have := st4.ge.sz; omega
      · have := D3.1
        rcases hj with hj | hj
        · have := hk4 _ hj; omega
        · omega
    simp (disch := first | omega | (simp only [e_ssz, e_psz, e_hszs, List.length_cons, List.length_nil]; try omega; done)) only [↓reduceIte, go_sem, w_both, D7.at, D7.2.1, C7.at, C7.2.1]
    refine ⟨effS_call (.inr (.inr (.inl ⟨rfl, way, 12, rfl, by decide, by decide, by simp (disch := first | omega | (simp only [e_ssz, e_psz, e_hszs, List.length_cons, List.length_nil]; try omega; done)) only [↓reduceIte, go_sem, D7.at, D7.2.1], ?_⟩))), effS_call (.inr (.inr (.inl ⟨rfl, way, 12, rfl, by decide, by decide, by simp (disch := first | omega | (simp only [e_ssz, e_psz, e_hszs, List.length_cons, List.length_nil]; try omega; done)) only [↓reduceIte, go_sem, C7.at, C7.2.1], ?_⟩)))⟩
    · rw [hwn]
      simp (disch := first | omega | (simp only [e_ssz, e_psz, e_hszs, List.length_cons, List.length_nil]; try omega; done)) only [↓reduceIte, go_sem, w_both, D7.at, D7.2.1]
      refine ⟨?_, ?_⟩
      · skip
        refine effS_call (.inr (.inr (.inr (.inl ⟨rfl, u4, a, xa, xc, _, wn, rfl, o4, hk4s, hl8, hw12, fun u5 h5 l s5 hr => ⟨by simp (disch := first | omega | (simp only [e_ssz, e_psz, e_hszs, List.length_cons, List.length_nil]; try omega; done)) only [go_sem], ?_⟩⟩))))
        have hrk := hr
        rw [rep_clause] at hr
        obtain ⟨va, vb, rfl, ia, ib⟩ := hr
        obtain ⟨qa, qc, rfl, -, -⟩ := ia.sl
        obtain ⟨ra, rc, rfl, -, -⟩ := ib.sl
        simp (disch := first | omega | (simp only [e_ssz, e_psz, e_hszs, List.length_cons, List.length_nil]; try omega; done)) only [↓reduceIte, go_sem]
        have sN := Step.push0 S0 u5 h5 #[str (spoC a wn).1.1, .slice qa (spoC a wn).1.2.1.length qc, .int .i64 (spoC a wn).1.2.2, .slice ra (spoC a wn).2.length rc] 31
        exact fin _ _ _ h5.size _ ((s5.mono fun j _ hj => .inl hj).trans0 sN) (by have := st4.ge.sz; have := s5.ge.sz; omega) (by simp [upd]) (by simp [upd]) (by simp [upd]) (Blk.new [str (spoC a wn).1.1, .slice qa (spoC a wn).1.2.1.length qc, .int .i64 (spoC a wn).1.2.2, .slice ra (spoC a wn).2.length rc] _) (Rep.mono sN.ge hrk)
      · skip
        refine effS_call (.inr (.inr (.inr (.inl ⟨rfl, ub u4 h4.size 0, a, xa, xc, _, wn, rfl, oZ, (Nat.le_trans hk4s sZ.ge.sz), hl8, hw12, fun u5 h5 l s5 hr => ⟨by simp (disch := first | omega | (simp only [e_ssz, e_psz, e_hszs, List.length_cons, List.length_nil]; try omega; done)) only [go_sem], ?_⟩⟩))))
        have hrk := hr
        rw [rep_clause] at hr
        obtain ⟨va, vb, rfl, ia, ib⟩ := hr
        obtain ⟨qa, qc, rfl, -, -⟩ := ia.sl
        obtain ⟨ra, rc, rfl, -, -⟩ := ib.sl
        have E8 := Z8.step s5 (fun hj => by have := hk4 _ hj; omega)
        have x8 := E8.1
        have sw := E8.stepSets (l := [str (spoC a wn).1.1, .slice qa (spoC a wn).1.2.1.length qc, .int .i64 (spoC a wn).1.2.2, .slice ra (spoC a wn).2.length rc]) rfl
        have F8 := E8.sets (l := [str (spoC a wn).1.1, .slice qa (spoC a wn).1.2.1.length qc, .int .i64 (spoC a wn).1.2.2, .slice ra (spoC a wn).2.length rc]) rfl
        simp (disch := first | omega | (simp only [e_ssz, e_psz, e_hszs, List.length_cons, List.length_nil]; try omega; done)) only [↓reduceIte, go_sem, E8.2.1, E8.2.2.1]
        exact fin _ _ _ h4.size _ (((sZ.mono (S' := fun j => OwnB (.slice xa a.2.1.length xc) j ∨ h4.size ≤ j) fun _ _ h => h.elim).trans s5 (fun j _ hj => .inl hj)).trans sw (fun j _ e => .inr (by have e : j = h4.size := e; omega))) (by have := st4.ge.sz; omega) (by simp [upd]) (by simp [upd]) (by simp [upd]) F8 (Rep.mono sw.ge hrk)
    · rw [hwn]
      simp (disch := first | omega | (simp only [e_ssz, e_psz, e_hszs, List.length_cons, List.length_nil]; try omega; done)) only [↓reduceIte, go_sem]
      refine effS_call (.inr (.inr (.inr (.inl ⟨rfl, ub u4 h4.size 0, a, xa, xc, _, wn, rfl, oZ, (Nat.le_trans hk4s sZ.ge.sz), hl8, hw12, fun u5 h5 l s5 hr => ⟨by simp (disch := first | omega | (simp only [e_ssz, e_psz, e_hszs, List.length_cons, List.length_nil]; try omega; done)) only [go_sem], ?_⟩⟩))))
      have hrk := hr
      rw [rep_clause] at hr
      obtain ⟨va, vb, rfl, ia, ib⟩ := hr
      obtain ⟨qa, qc, rfl, -, -⟩ := ia.sl
      obtain ⟨ra, rc, rfl, -, -⟩ := ib.sl
      have E8 := Z8.step s5 (fun hj => by have := hk4 _ hj; omega)
      have x8 := E8.1
      have sw := E8.stepSets (l := [str (spoC a wn).1.1, .slice qa (spoC a wn).1.2.1.length qc, .int .i64 (spoC a wn).1.2.2, .slice ra (spoC a wn).2.length rc]) rfl
      have F8 := E8.sets (l := [str (spoC a wn).1.1, .slice qa (spoC a wn).1.2.1.length qc, .int .i64 (spoC a wn).1.2.2, .slice ra (spoC a wn).2.length rc]) rfl
      simp (disch := first | omega | (simp only [e_ssz, e_psz, e_hszs, List.length_cons, List.length_nil]; try omega; done)) only [↓reduceIte, go_sem, E8.2.1, E8.2.2.1]
      exact fin _ _ _ h4.size _ (((sZ.mono (S' := fun j => OwnB (.slice xa a.2.1.length xc) j ∨ h4.size ≤ j) fun _ _ h => h.elim).trans s5 (fun j _ hj => .inl hj)).trans sw (fun j _ e => .inr (by have e : j = h4.size := e; omega))) (by have := st4.ge.sz; omega) (by simp [upd]) (by simp [upd]) (by simp [upd]) F8 (Rep.mono sw.ge hrk)
  intro σ5 h5 hM5
  rw [hM] at hM5
  obtain ⟨g3, g9, u5, p8, l8, t5, g8, hp8, B8, hr8, E3⟩ := hM5
  have e3l := E3.1
  simp (disch := first | omega | (simp only [e_ssz, e_psz, e_hszs, List.length_cons, List.length_nil]; try omega; done)) only [↓reduceIte, go_sem, g3, E3.at, E3.2.1]
  refine effS_call (.inr (.inr (.inr (.inr (.inl ⟨rfl, u5, _, p, rfl, hl.mono t5.ge, hS, fun u6 h6 v6 s6 i6 => ⟨by simp (disch := first | omega | (simp only [e_ssz, e_psz, e_hszs, List.length_cons, List.length_nil]; try omega; done)) only [go_sem], ?_⟩⟩)))))
  obtain ⟨pa, pc, rfl, z1, z2⟩ := i6.sl
  obtain ⟨Q, hQ⟩ : ∃ Q, Q = (p.take 512).map claM := ⟨_, rfl⟩
  rw [← hQ] at i6 z1 ⊢
  have F8 := B8.step0 s6
  have hrc := hr8
  rw [rep_clause] at hrc
  obtain ⟨va, vb, rfl, ia, ib⟩ := hrc
  obtain ⟨qa, qc, rfl, -, -⟩ := ia.sl
  obtain ⟨ra, rc, rfl, -, -⟩ := ib.sl
  have f8 := F8.1
  obtain ⟨m, hmd⟩ : ∃ m : Nat, (if (500 : Int) < (Q.length : Int) then (500 : Int) else (Q.length : Int)) = m := ⟨min 500 Q.length, by split <;> omega⟩
  have hm5 : m ≤ 500 ∧ m ≤ Q.length := by split at hmd <;> omega
  simp (disch := first | omega | (simp only [e_ssz, e_psz, e_hszs, List.length_cons, List.length_nil]; try omega; done)) only [↓reduceIte, go_sem, g8, F8.at, F8.2.1, hmd]
  refine ⟨by omega, ?_⟩
  have sQ := Step.push0 S0 u6 h6 #[.slice pa m pc] 24
  have BQ := Blk.new (u := u6) (h := h6) [.slice pa m pc] 24
  obtain ⟨u7, hu7⟩ : ∃ u7, u7 = ub u6 h6.size 0 := ⟨_, rfl⟩
  obtain ⟨h7, hh7⟩ : ∃ h7, h7 = h6.push (.cells #[.slice pa m pc] 24) := ⟨_, rfl⟩
  have hz7 : h7.size = h6.size + 1 := by rw [hh7]; simp only [e_psz]
  have BQ : Blk u7 h7 h6.size [.slice pa m pc] := by rw [hu7, hh7]; exact BQ
  rw [← hu7, ← hh7] at sQ
  rw [← hh7]
  have hr7 := Rep.mono sQ.ge (Rep.mono s6.ge hr8)
  have oB := own_one (u := u7) (h := h7) 31 hr7
  have sB := Step.push S0 u7 h7 #[str (spoC a wn).1.1, .slice qa (spoC a wn).1.2.1.length qc, .int .i64 (spoC a wn).1.2.2, .slice ra (spoC a wn).2.length rc] 31 (Rep.sz Clause)
  have iQ := (((isSl_takeP i6 hm5.2).mono sQ.ge).mono sB.ge)
  have EQ := BQ.step0 sB
  have E8 := (F8.step0 sQ).step0 sB
  have hlt : ([spoC a wn].length + (Q.take m).length) = m + 1 := by rw [List.length_take, List.length_singleton]; omega
  rw [hz7] at oB iQ EQ E8 sB
  refine effS_app oB iQ rfl rfl (by simp only [e_psz]; omega) (by rw [hlt]; omega) fun a9 n9 c9 u9 h9 o9 s9 => ⟨by simp (disch := first | omega | (simp only [e_ssz, e_psz, e_hszs, List.length_cons, List.length_nil]; try omega; done)) only [go_sem], ?_⟩
  have hown : ∀ j, OwnB (.slice (some ⟨h6.size + 1, 0, none⟩) 1 1) j → j = h6.size + 1 := fun j hj => by
    obtain ⟨x, y, z, e⟩ := hj
    simp only [Value.slice.injEq, Option.some.injEq, Addr.mk.injEq] at e
    exact e.1.1.symm
  have q1 := EQ.1
  have eQ := EQ.step s9 (fun hj => by have := hown _ hj; omega)
  have e8 := E8.step s9 (fun hj => by have := hown _ hj; have := F8.1; omega)
  obtain ⟨xa9, xc9, hx9, -, -⟩ := o9.sl
  cases hx9
  obtain ⟨P, hPP⟩ : ∃ P, P = [spoC a wn] ++ Q.take m := ⟨_, rfl⟩
  rw [← hPP] at o9
  have hPl : 1 + (Q.take m).length = P.length := by rw [hPP, List.length_append]; rfl
  have q9 := eQ.1
  have q8 := e8.1
  have hset9 : Step (fun j => j = h6.size) u9 h9 u9 (hset h9 h6.size 0 (.slice a9 P.length c9)) := Step.set u9 h9 _ rfl (by rw [eQ.2.2.2.1]; exact Nat.zero_le _)
  have eQ2 := eQ.set (i := 0) (v := .slice a9 P.length c9) (by simp)
  have e82 := e8.step hset9 (fun hj => by have hj : p8 = h6.size := hj; have := F8.1; omega)
  rw [← hPP]
  simp (disch := first | omega | (simp only [e_ssz, e_psz, e_hszs, List.length_cons, List.length_nil]; try omega; done)) only [↓reduceIte, go_sem, eQ.2.1, eQ.2.2.1]
  obtain ⟨hx, hhx⟩ : ∃ hx, hx = hset h9 h6.size 0 (.slice a9 P.length c9) := ⟨_, rfl⟩
  rw [← hhx] at hset9 eQ2 e82 ⊢
  simp (disch := first | omega | (simp only [e_ssz, e_psz, e_hszs, List.length_cons, List.length_nil]; try omega; done)) only [go_sem, g8, e82.at, e82.2.1]
  have tx : Step S0 u h u9 hx := (((((t5.trans0 s6).trans0 sQ).trans0 sB).own s9 (fun j hj => by have := hown _ hj; have := t5.ge.sz; have := s6.ge.sz; omega)).own hset9 (fun j hj => by have hj : j = h6.size := hj; have := t5.ge.sz; have := s6.ge.sz; omega))
  have hrx := Rep.mono hset9.ge (Rep.mono s9.ge (Rep.mono sB.ge hr7))
  have hwc : Rep.wf (spoC a wn) := wf_spo hwf (by rw [ha']; show ((hd.2.1.take 8).map trmM).length ≤ 8; rw [List.length_map, List.length_take]; omega) hw12
  have hwhy : clauseW (spoC a wn) = spoW wn := spo_why (by omega) (by omega) hw0
  have hne : spoW (wn : Int) ≠ 0 := spo_ne _
  refine effS_call (.inr (.inl ⟨rfl, _, spoC a wn, [str (spoC a wn).1.1, .slice qa (spoC a wn).1.2.1.length qc, .int .i64 (spoC a wn).1.2.2, .slice ra (spoC a wn).2.length rc], rfl, hrx, hwc, fun e => absurd (hwhy.symm.trans e) hne, hP.mono tx.ge, fun u10 h10 t10 s10 ht10 => ⟨by simp (disch := first | omega | (simp only [e_ssz, e_psz, e_hszs, List.length_cons, List.length_nil]; try omega; done)) only [go_sem], ?_⟩⟩))
  have hte : t10 = [] := ht10.2 (by rw [hwhy]; exact hne)
  subst hte
  have eQ3 := eQ2.step0 s10
  have e83 := e82.step0 s10
  have q10 := eQ3.1
  have eat := eQ3.at 0 (by simp)
  have eat : hv h10 h6.size 0 = .slice a9 P.length c9 := eat
  simp (disch := first | omega | (simp only [e_ssz, e_psz, e_hszs, List.length_cons, List.length_nil]; try omega; done)) only [↓reduceIte, go_sem, eat, eQ3.2.1]
  have iP := ((o9.isSl).mono hset9.ge).mono s10.ge
  have hPlen : P.length ≤ 501 := by rw [← hPl, List.length_take]; omega
  have hwP : Rep.wf P := by
    refine wfl (by omega) fun c hc => ?_
    rw [hPP] at hc
    rcases List.mem_append.1 hc with hc | hc
    · rcases List.mem_singleton.1 hc with rfl; exact hwc
    · have hc := List.mem_of_mem_take hc
      rw [hQ] at hc
      obtain ⟨y, hy, rfl⟩ := List.mem_map.1 hc
      exact wf_cla (hwp.2 y (List.mem_of_mem_take hy))
  have hwW : wellW P = spoW wn := by
    rw [hPP]
    exact spo_well (by omega) (by omega) hw0 (by show (Q.take m).length ≤ 500; rw [List.length_take]; omega)
  refine effS_call (.inr (.inr (.inr (.inr (.inr (.inl ⟨rfl, u10, P, [.slice a9 P.length c9], rfl, by rw [rep_list]; exact ⟨_, rfl, iP⟩, hwP, fun u11 h11 s11 => ⟨by simp (disch := first | omega | (simp only [e_ssz, e_psz, e_hszs, List.length_cons, List.length_nil]; try omega; done)) only [go_sem], ?_⟩⟩))))))
  have eQ4 := eQ3.step0 s11
  have eat4 := eQ4.at 0 (by simp)
  have eat4 : hv h11 h6.size 0 = .slice a9 P.length c9 := eat4
  have q11 := eQ4.1
  simp (disch := first | omega | (simp only [e_ssz, e_psz, e_hszs, List.length_cons, List.length_nil]; try omega; done)) only [↓reduceIte, go_sem, g9, eat4, eQ4.2.1, vI, hwW]
  refine effS_call (.inr (.inr (.inr (.inr (.inr (.inr ⟨rfl, u11, .slice a9 P.length c9, P, rfl, iP.mono s11.ge, hwP, by rw [hwW]; exact hne, fun u12 h12 s12 => ⟨by simp (disch := first | omega | (simp only [e_ssz, e_psz, e_hszs, List.length_cons, List.length_nil]; try omega; done)) only [go_sem], ?_⟩⟩))))))
  simp (disch := first | omega | (simp only [e_ssz, e_psz, e_hszs, List.length_cons, List.length_nil]; try omega; done)) only [↓reduceIte, go_sem, g9]
  exact ((tx.trans0 s10).trans0 s11 |>.trans0 s12).ext
end Go.Proofs.Ytdaldilmjhdpaaa
