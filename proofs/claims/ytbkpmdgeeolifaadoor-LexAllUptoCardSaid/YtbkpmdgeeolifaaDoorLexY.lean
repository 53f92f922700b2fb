/- Lists of tokens that the caller writes over: unsettled, marked, settled; and the contracts over them. -/
import Derived.Test.YtbkpmdgeeolifaaDoorLexZ
namespace Go.Proofs.YtbkpmdgeeolifaaDoor
open Go Go.Ev Edict
def RawT (u : U) (h : H) (b c : Nat) (l : List Tok) : Prop := b < h.size ∧ hsz h b = c * 6 ∧ hfr h b = (0, 0) ∧ u b = 0 ∧ l.length ≤ c ∧ c ≤ maxLen ∧ ∀ j x, l[j]? = some x → hvs h b (j * 6) 6 = tokE x
/-- A list of tokens of the call's own, none of it settled. -/
def TokV (u : U) (h : H) (v : Value) (l : List Tok) : Prop := (v = .slice none 0 0 ∧ l = []) ∨ ∃ b c, v = .slice (some ⟨b, 0, none⟩) l.length c ∧ RawT u h b c l
theorem hvs_block {h h' : H} {b o n : Nat} (e : h'[b]? = h[b]?) : hvs h' b o n = hvs h b o n := by
  unfold hvs
  apply List.map_congr_left
  intro i _
  unfold Go.Ev.hv hc
  rw [e]
theorem TokV.step {S : Nat → Prop} {u u' : U} {h h' : H} {v : Value} {l : List Tok} (t : TokV u h v l) (s : Step S u h u' h') (hn : ∀ b, OwnB v b → ¬ S b) : TokV u' h' v l := by
  rcases t with q | ⟨b, c, rfl, h1, h2, h3, h4, h5, h6, h7⟩
  · exact .inl q
  · obtain ⟨s1, s2⟩ := s.same b h1 (hn b ⟨_, _, _, rfl⟩)
    exact .inr ⟨b, c, rfl, Nat.lt_of_lt_of_le h1 s.ge.sz, by rw [(s.ge.hs b h1).1]; exact h2, by rw [(s.ge.hs b h1).2]; exact h3, by rw [s2]; exact h4, h5, h6, fun j x hx => by rw [hvs_block s1]; exact h7 j x hx⟩
theorem TokV.step0 {u u' : U} {h h' : H} {v : Value} {l : List Tok} (t : TokV u h v l) (s : Step S0 u h u' h') : TokV u' h' v l := t.step s (fun _ _ q => q)
theorem TokV.lt {u : U} {h : H} {v : Value} {l : List Tok} (t : TokV u h v l) {b : Nat} (hb : OwnB v b) : b < h.size := by
  obtain ⟨o, n, c, rfl⟩ := hb
  rcases t with ⟨q, -⟩ | ⟨b', c', q, h1, -⟩
  · cases q
  · cases q; exact h1
theorem TokV.sl {u : U} {h : H} {v : Value} {l : List Tok} (t : TokV u h v l) : ∃ a c, v = .slice a l.length c ∧ l.length ≤ c ∧ c ≤ maxLen := by
  rcases t with ⟨rfl, rfl⟩ | ⟨b, c, rfl, h1, h2, h3, h4, h5, h6, h7⟩
  · exact ⟨none, 0, rfl, Nat.le_refl _, Nat.zero_le _⟩
  · exact ⟨_, c, rfl, h5, h6⟩
/-- What was just made, taken back as unsettled. -/
theorem tokV_of {u u' : U} {h h' : H} {v : Value} {l : List Tok} (s : Step S0 u h u' h') (o : Own h.size u' h' v l) : ∃ u'', Step S0 u h u'' h' ∧ TokV u'' h' v l ∧ ∀ b, OwnB v b → h.size ≤ b := by
  rcases o with ⟨rfl, rfl⟩ | ⟨b, c, rfl, h1, h2, h3, h4, h5, h6, h7, h8⟩
  · exact ⟨u', s, .inl ⟨rfl, rfl⟩, fun b ⟨o, n, c, q⟩ => by cases q⟩
  · have hu : ∀ x, x < h.size → ub u' b 0 x = u' x := fun x hx => by unfold ub; rw [if_neg (by omega)]
    refine ⟨ub u' b 0, ⟨⟨s.ge.sz, fun x hx => by rw [hu x hx]; exact s.ge.up x hx, s.ge.hs, s.ge.cl⟩, fun x hx hn => ⟨(s.same x hx hn).1, by rw [hu x hx]; exact (s.same x hx hn).2⟩⟩, .inr ⟨b, c, rfl, h4, h5, h6, by unfold ub; rw [if_pos rfl], h1, h2, fun j x hx => ?_⟩, fun x ⟨o, n, c', q⟩ => by cases q; exact h3⟩
    have := h8 j x hx
    rw [rep_tok] at this
    exact this
/-- Settled for reading alone. -/
theorem TokV.isSl {u : U} {h : H} {v : Value} {l : List Tok} (t : TokV u h v l) : IsSl (hsz h) h v l := by
  rcases t with ⟨rfl, rfl⟩ | ⟨b, c, rfl, h1, h2, h3, h4, h5, h6, h7⟩
  · exact .nil _ _
  · refine ⟨_, _, _, rfl, rfl, h5, h6, (fun h => by cases h), fun _ => ⟨b, 0, rfl, h1, ?_, ?_, fun i x hx => ?_⟩⟩
    · rw [h2, Nat.zero_add]; exact Nat.mul_le_mul_right _ h5
    · rw [h2, Nat.zero_add]; exact Nat.mul_le_mul_right _ h5
    · rw [Nat.zero_add, rep_tok]; exact h7 i x hx
theorem isSl_all {u : U} {h : H} {v : Value} {l : List Tok} (t : IsSl u h v l) : IsSl (hsz h) h v l := by
  obtain ⟨a, n, c, h1, h2, h3, h4, h5, h6⟩ := t
  refine ⟨a, n, c, h1, h2, h3, h4, h5, fun hne => ?_⟩
  obtain ⟨b, o, e, hb, hu, hz, hr⟩ := h6 hne
  exact ⟨b, o, e, hb, hz, hz, fun i x hx => by have := hr i x hx; rw [rep_tok] at this ⊢; exact this⟩
/-- The settled list, to be added to. -/
theorem TokV.own {k : Nat} {u : U} {h : H} {v : Value} {l : List Tok} (t : TokV u h v l) (hk : ∀ b, OwnB v b → k ≤ b) : ∃ u', Step (OwnB v) u h u' h ∧ Own k u' h v l := by
  rcases t with ⟨rfl, rfl⟩ | ⟨b, c, rfl, h1, h2, h3, h4, h5, h6, h7⟩
  · exact ⟨u, Step.refl _ _ _, .nil _ _ _⟩
  · refine ⟨ub u b (l.length * 6), ⟨⟨Nat.le_refl _, fun x _ => ?_, fun _ _ => ⟨rfl, rfl⟩, fun _ _ _ _ => rfl⟩, fun x hx hn => ⟨rfl, ?_⟩⟩, .inr ⟨b, c, rfl, h5, h6, hk b ⟨_, _, _, rfl⟩, h1, h2, h3, by unfold ub; rw [if_pos rfl]; rfl, fun j x hx => by rw [rep_tok]; exact h7 j x hx⟩⟩
    · unfold ub; split
      · rename_i e; subst e; omega
      · exact Nat.le_refl _
    · unfold ub; rw [if_neg (fun e => hn (by subst e; exact ⟨_, _, _, rfl⟩))]
def mixU (h : H) (u u' : U) : U := fun x => if x < h.size then u x else u' x
/-- A step from one ghost is a step from another. -/
theorem reghost {u1 u' : U} {h h' : H} (u : U) (s : Step S0 u1 h u' h') : Step S0 u h (mixU h u u') h' := by
  have hm : ∀ x, x < h.size → mixU h u u' x = u x := fun x hx => by unfold mixU; rw [if_pos hx]
  exact ⟨⟨s.ge.sz, fun x hx => by rw [hm x hx]; exact Nat.le_refl _, s.ge.hs, fun x hx o _ => s.hv hx (fun q => q) o⟩, fun x hx hn => ⟨(s.same x hx hn).1, hm x hx⟩⟩
theorem reghost_own {u' : U} {h h' : H} {v : Value} {l : List Tok} (u : U) (o : Own h.size u' h' v l) : Own h.size (mixU h u u') h' v l := by
  rcases o with q | ⟨b, c, rfl, h1, h2, h3, h4, h5, h6, h7, h8⟩
  · exact .inl q
  · exact .inr ⟨b, c, rfl, h1, h2, h3, h4, h5, h6, by unfold mixU; rw [if_neg (by omega)]; exact h7, fun i x hx => by have := h8 i x hx; rw [rep_tok] at this ⊢; exact this⟩
def markL (m : Int) (n : Nat) : List Tok := (List.range n).map (markT m)
theorem markL_len (m : Int) (n : Nat) : (markL m n).length = n := by unfold markL; simp
/-- mark, over such a list. -/
def C_markV (vs : List Value) (h : H) (K : Value → H → Prop) : Prop := ∃ (u : U) (v : Value) (l : List Tok) (m : Int), vs = [v, .int .i64 m] ∧ TokV u h v l ∧ l.length ≤ 65540 ∧ ∀ h', Step (OwnB v) u h u h' → TokV u h' v (markL m l.length) → K (.tuple #[]) h'
theorem lwMarkV_ok {vs : List Value} {h : H} {K : Value → H → Prop} {KP : List PanicEntry → H → Prop} (hC : C_markV vs h K) : HCX Tryd.prog 31 vs h K KP := by
  obtain ⟨u, v, l, m, rfl, ht, hl, hK⟩ := hC
  rcases ht with ⟨rfl, rfl⟩ | ⟨b, c, rfl, h1, h2, h3, h4, h5, h6, h7⟩
  · have := hK h (Step.refl _ _ _) (.inl ⟨rfl, rfl⟩)
    refine lwMark_H (fun _ _ _ _ _ => False) (fun _ _ _ _ _ h => h.elim) _ _ ?_
    simp (disch := first | omega | (simp only [e_ssz, e_psz, e_hszs, List.length_cons, List.length_nil]; try omega; done)) only [go_sem, lwMark_S, lwMark_E]
    refine wpS_loop (fun (_ : Nat) σ h' => σ 0 = .slice none 0 0 ∧ σ 4 = .int .i64 0 ∧ h' = h) (fun j => j) 0 ⟨by simp [upd], by simp [upd], rfl⟩ ?_
    rintro j σ h' ⟨e0, e4, rfl⟩
    simp (disch := first | omega | (simp only [e_ssz, e_psz, e_hszs, List.length_cons, List.length_nil]; try omega; done)) only [↓reduceIte, go_sem, lwMark_L1, e0, e4]
    exact this
  · refine lwMark_ok ⟨b, l.length, c, m, rfl, h1, h2, h3, h5, hl, fun h' p hr => ?_⟩
    obtain ⟨p1, p2, p3, p4⟩ := p
    have st : Step (OwnB (.slice (some ⟨b, 0, none⟩) l.length c)) u h u h' := by
      refine ⟨⟨by omega, fun _ _ => Nat.le_refl _, fun x hx => ?_, fun x hx o ho => ?_⟩, fun x hx hn => ⟨p2 x (fun e => hn (by subst e; exact ⟨_, _, _, rfl⟩)), rfl⟩⟩
      · by_cases e : x = b
        · subst e; exact ⟨p3, p4⟩
        · unfold hsz hfr; rw [p2 x e]; exact ⟨rfl, rfl⟩
      · have e : x ≠ b := fun e => by subst e; omega
        unfold Go.Ev.hv hc; rw [p2 x e]
    have hml := markL_len m l.length
    refine hK h' st (.inr ⟨b, c, by rw [hml], by omega, by omega, by rw [p4]; exact h3, h4, by rw [hml]; exact h5, h6, fun j x hx => ?_⟩)
    have hj : j < l.length := by have := (List.getElem?_eq_some_iff.1 hx).1; rwa [hml] at this
    rw [hr j hj]
    unfold markL at hx
    rw [List.getElem?_map, List.getElem?_range hj] at hx
    cases hx
    rfl
def C_scanV (vs : List Value) (h : H) (K : Value → H → Prop) : Prop := ∃ (u : U) (s : List UInt8), vs = [str s] ∧ s.length ≤ 9223372036854775807 ∧ LxG u h ∧ ∀ u' h' v, Step S0 u h u' h' → TokV u' h' v (scanF s).1 → (∀ b, OwnB v b → h.size ≤ b) → K (.tuple #[v, .agg (fltE (scanF s).2.1 ((scanF s).2.2 : Nat)).toArray]) h'
theorem lxScanV_ok {vs : List Value} {h : H} {K : Value → H → Prop} {KP : List PanicEntry → H → Prop} (hC : C_scanV vs h K) : HCX Tryd.prog 21 vs h K KP := by
  obtain ⟨u, s, rfl, hl, hG, hK⟩ := hC
  refine lxScan_ok ⟨u, s, rfl, hl, hG, fun u' h' v s2 o2 => ?_⟩
  obtain ⟨u'', s3, t3, hb⟩ := tokV_of s2 o2
  exact hK u'' h' v s3 t3 hb
def C_rscanV (vs : List Value) (h : H) (K : Value → H → Prop) : Prop := ∃ (u : U) (s : List UInt8), vs = [str s] ∧ s.length ≤ 9223372036854775807 ∧ ∀ u' h' v, Step S0 u h u' h' → IsSl u' h' v (scanF s).1 → K (.tuple #[v, .agg (fltE (scanF s).2.1 ((scanF s).2.2 : Nat)).toArray]) h'
theorem rfScanV_ok {vs : List Value} {h : H} {K : Value → H → Prop} {KP : List PanicEntry → H → Prop} (hC : C_rscanV vs h K) : HCX Tryd.prog 15 vs h K KP := by
  obtain ⟨u, s, rfl, hl, hK⟩ := hC
  exact rfScan_ok ⟨u, s, rfl, hl, fun u' h' v s2 o2 => hK u' h' v s2 o2.isSl⟩
def C_playedV (vs : List Value) (h : H) (K : Value → H → Prop) : Prop := ∃ (u : U) (k : Int) (s : List UInt8) (a b : Int), vs = [.agg #[.int .i64 k, str s, .int .i64 a, .int .i64 b]] ∧ s.length ≤ 9223372036854775807 ∧ (-9223372036854775808 ≤ a ∧ a ≤ 9223372036854775807) ∧ LxG u h ∧
  ∀ u' h' v, Step S0 u h u' h' → TokV u' h' v (if k = 0 then (scanF s).1 else []) → (∀ b, OwnB v b → h.size ≤ b) → K (.tuple #[.bool true, v]) h'
theorem lwPlayedV_ok {vs : List Value} {h : H} {K : Value → H → Prop} {KP : List PanicEntry → H → Prop} (hC : C_playedV vs h K) : HCX Tryd.prog 30 vs h K KP := by
  obtain ⟨u, k, s, a, b, rfl, hl, ha, hG, hK⟩ := hC
  refine lwPlayed_ok ⟨u, k, s, a, b, rfl, hl, ha, hG, fun u' h' v s2 o2 => ?_⟩
  obtain ⟨u'', s3, t3, hb⟩ := tokV_of s2 o2
  exact hK u'' h' v s3 t3 hb
def C_copiedV (vs : List Value) (h : H) (K : Value → H → Prop) : Prop := ∃ (u : U) (v : Value) (l : List Tok), vs = [v] ∧ IsSl (hsz h) h v l ∧ l.length ≤ 65540 ∧ ∀ u' h' v', Step S0 u h u' h' → IsSl u' h' v' l → K v' h'
theorem lwCopiedV_ok {vs : List Value} {h : H} {K : Value → H → Prop} {KP : List PanicEntry → H → Prop} (hC : C_copiedV vs h K) : HCX Tryd.prog 32 vs h K KP := by
  obtain ⟨u, v, l, rfl, hv, hl, hK⟩ := hC
  exact lwCopied_ok ⟨hsz h, v, l, rfl, hv, hl, fun u' h' v' s2 o2 => hK _ _ _ (reghost u s2) (reghost_own u o2).isSl⟩
end Go.Proofs.YtbkpmdgeeolifaaDoor
