/- What lex's Scan answers. -/
import Derived.Test.YtlenjlidahnklaaDoorLexE
namespace Edict
theorem eachF_all {go : Nat → Bool} (hg : ∀ i, go i = true) (fl : Int × Nat) : ∀ (l : List Tok) (i : Nat), eachF go fl i l = (i + l.length, fl)
  | [], i => rfl
  | t :: r, i => by
    unfold eachF
    rw [if_pos (hg i), eachF_all hg fl r (i + 1), List.length_cons]
    congr 1; omega
theorem scanK_len {s : List UInt8} {k : Nat} (hk : k ≤ s.length) : (scanK s k).1.length ≤ s.length - k + 1 := by
  cases hn : nextF s k with
  | bad c o => rw [scanK_bad hn]; simp
  | ok t =>
    by_cases h0 : t.1 = 0
    · rw [scanK_end hn h0]; simp
    · rw [scanK_on hk hn h0]
      obtain ⟨c, v, a, p, o, e, rfl, q1, q2, q3, q4⟩ := next_ok hk hn
      simp only at h0
      have := q4 h0
      simp only [Int.toNat_natCast, List.length_cons]
      have := scanK_len (s := s) (k := e) q2
      omega
termination_by s.length - k
theorem scanF_len (s : List UInt8) : (scanF s).1.length ≤ 65537 := by
  unfold scanF
  split
  · simp
  · have := scanK_len (s := s) (k := 0) (by omega)
    show (scanK s 0).1.length ≤ _
    omega
end Edict
namespace Go.Ev
open Go Rep Edict
set_option linter.unusedVariables false
theorem rep_tok {u : U} {h : H} {t : Tok} {cs : List Value} : rep u h t cs = (cs = tokE t) := by simp [rep_prod, rep_int, rep_str, tokE]
theorem sz_tok : sz Tok = 6 := rfl
/-- append of a row that was laid into a new block; and which blocks are the call's own behind it. -/
theorem effS_app1q {α : Type} [Rep α] {G : Ctr} {e e' : TypeId} {bytes s : Nat} {z cs : List Value} {k p : Nat} {u : U} {h : H} {v : Value} {l : List α} {x : α} {d : Option Nat} {st : Stab} {r : List St} {K : Env → H → Prop} {KP : List PanicEntry → H → Prop} {σ : Env}
    (hp : p = h.size) (ho : Own k u h v l) (hx : rep u h x cs) (hs : s = sz α) (hz : z.length = sz α) (hk : k ≤ h.size) (hb : (l.length + 1) * bytes ≤ 140737488355328)
    (hK : ∀ a n c u' h', Own k u' h' (.slice a n c) (l ++ [x]) → Step (OwnB v) u h u' h' → (∀ b, OwnB (.slice a n c) b → OwnB v b ∨ h.size ≤ b) → stabP st σ (h.push (.cells cs.toArray e')) h' ∧ wpSts G r K KP (updo σ d (.slice a n c)) h') :
    effS G (.app e s bytes z) d st r K KP [v, .slice (some ⟨p, 0, none⟩) 1 1] σ (h.push (.cells cs.toArray e')) := by
  subst hp
  exact own_app1 (G := G) (KP := KP) (K := fun v' h' => stabP st σ (h.push (.cells cs.toArray e')) h' ∧ wpSts G r K KP (updo σ d v') h') ho hx hs hz hk hb (fun v' u' h' o' s' b' => by
    obtain ⟨a, c, rfl, -, -⟩ := o'.sl
    exact hK _ _ _ _ _ o' s' b')
end Go.Ev
namespace Go.Proofs.YtlenjlidahnklaaDoor
open Go Go.Ev Edict
def C_scanY (vs : List Value) (h : H) (K : Value → H → Prop) : Prop := ∃ (u : U) (bx k : Nat) (v : Value) (l : List Tok) (t : Tok), vs = [.agg (tokE t).toArray, .pointer (some ⟨bx, 0, none⟩)] ∧ Blk u h bx [v] ∧ Own k u h v l ∧ bx < k ∧ k ≤ h.size ∧ l.length ≤ 65537 ∧
  ∀ u' h' v', Step (fun b => b = bx ∨ OwnB v b) u h u' h' → Blk u' h' bx [v'] → Own k u' h' v' (l ++ [t]) → (∀ b, OwnB v' b → OwnB v b ∨ h.size ≤ b) → K (.bool true) h'
theorem lxScanY_ok {vs : List Value} {h : H} {K : Value → H → Prop} {KP : List PanicEntry → H → Prop} (hC : C_scanY vs h K) : HCX Tryd.prog 45 vs h K KP := by
  obtain ⟨u, bx, k, v, l, t, rfl, hB, ho, hbk, hk, hl, hK⟩ := hC
  have hB1 := hB.1
  obtain ⟨va, vc, rfl, hv1, hv2⟩ := ho.sl
  refine lxScanY_H (fun _ _ _ _ _ => False) (fun _ _ _ _ _ h => h.elim) _ _ ?_
  have sp := Step.push0 S0 u h (tokE t).toArray 80
  have B1 := hB.step0 sp
  have o1 := ho.step0 sp
  simp only [tokE] at sp B1 o1 ⊢
  simp (disch := first | omega | (simp only [e_ssz, e_psz, e_hszs, List.length_cons, List.length_nil]; try omega; done)) only [↓reduceIte, go_sem, lxScanY_S, lxScanY_E, hB.at, hB.2.1]
  refine effS_app1q (by simp only [e_psz]) o1 (x := t) (by rw [rep_tok]; rfl) rfl rfl (by simp only [e_psz]; omega) (by omega) fun a n c u2 h2 ho2 s2 hO => ?_
  have hne : ∀ b, OwnB (.slice va l.length vc) b → k ≤ b := fun b hb => ho.ge hb
  have B2 := B1.step s2 (fun hb => by have := hne _ hb; omega)
  have B21 := B2.1
  refine ⟨by simp (disch := first | omega | (simp only [e_ssz, e_psz, e_hszs, List.length_cons, List.length_nil]; try omega; done)) only [go_sem], ?_⟩
  have ss := Step.set (S := fun b => b = bx) u2 h2 (o := 0) (.slice a n c) (b := bx) rfl (by rw [B2.2.2.2.1]; exact Nat.zero_le _)
  have st : Step (fun b => b = bx ∨ OwnB (.slice va l.length vc) b) u h u2 (hset h2 bx 0 (.slice a n c)) :=
    ((sp.mono (S' := fun b => b = bx ∨ OwnB (.slice va l.length vc) b) (fun _ _ h => h.elim)).trans s2 (fun b _ hb => .inr hb)).trans ss (fun b _ hb => .inl hb)
  have B3 := B2.set (i := 0) (v := .slice a n c) (by simp)
  simp (disch := first | omega | (simp only [e_ssz, e_psz, e_hszs, List.length_cons, List.length_nil]; try omega; done)) only [↓reduceIte, go_sem, B2.2.1, B2.2.2.1]
  exact hK _ _ _ st B3 (ho2.step ss (fun b hb he => by have := ho2.ge hb; omega)) (fun b hb => (hO b hb).imp id fun q => by simp at q; omega)
def Y_scan : Ctr := fun f vs h K _ => f = 45 ∧ C_scanY vs h K
theorem Y_scan_ok : GOk Tryd.prog Y_scan := by
  rintro f vs h K KP ⟨rfl, hC⟩; exact lxScanY_ok hC
def C_scan (vs : List Value) (h : H) (K : Value → H → Prop) : Prop := ∃ (u : U) (s : List UInt8), vs = [str s] ∧ s.length ≤ 9223372036854775807 ∧ LxG u h ∧ ∀ u' h' v, Step S0 u h u' h' → Own h.size u' h' v (scanF s).1 → K (.tuple #[v, .agg (fltE (scanF s).2.1 (scanF s).2.2).toArray]) h'
def G_lxScan : Ctr := fun f vs h K _ => f = 44 ∧ C_each Y_scan vs h K
theorem G_lxScan_ok : GOk Tryd.prog G_lxScan := by
  rintro f vs h K KP ⟨rfl, hC⟩; exact lxEach_ok Y_scan_ok hC
theorem lxScan_ok {vs : List Value} {h : H} {K : Value → H → Prop} {KP : List PanicEntry → H → Prop} (hC : C_scan vs h K) : HCX Tryd.prog 38 vs h K KP := by
  obtain ⟨u, s, rfl, hl, hG, hK⟩ := hC
  refine lxScan_H G_lxScan G_lxScan_ok _ ?_
  have R1 := Blk.new (u := u) (h := h) (fltE 0 0) 27
  have R2 := R1.pushR (c := #[.slice none 0 0]) (t := 92)
  have b2 := Blk.new (u := ub u h.size 0) (h := h.push (.cells (fltE 0 0).toArray 27)) [.slice none 0 0] 92
  have st2 := ((Step.refl S0 u h).pushR (c := (fltE 0 0).toArray) (t := 27)).pushR (c := #[.slice none 0 0]) (t := 92)
  have hlen := scanF_len s
  simp only [e_psz, fltE] at R2 b2 st2
  simp (disch := first | omega | (simp only [e_ssz, e_psz, e_hszs, List.length_cons, List.length_nil]; try omega; done)) only [↓reduceIte, go_sem, lxScan_S, lxScan_E, e_mkf]
  obtain ⟨h2, hh2⟩ : ∃ h2, h2 = (h.push (.cells (fltE 0 0).toArray 27)).push (.cells #[.slice none 0 0] 92) := ⟨_, rfl⟩
  obtain ⟨u2, hu2⟩ : ∃ u2, u2 = ub (ub u h.size 0) (h.size + 1) 0 := ⟨_, rfl⟩
  simp only [fltE] at hh2
  rw [← hh2, ← hu2] at R2 b2 st2
  rw [← hh2]
  have hs2 : h2.size = h.size + 2 := by rw [hh2]; simp
  refine effS_call ⟨rfl, u2, s, _, fun _ => true, fun b => b = h.size + 1, fun i O u' h' => ∃ v, O = (fun b => b = h.size + 1 ∨ OwnB v b) ∧ Blk u' h' (h.size + 1) [v] ∧ Own (h.size + 2) u' h' v ((scanF s).1.take i) ∧ h.size + 2 ≤ h'.size, rfl, hl, hG.mono st2.ge, ?_, ?_, ?_, ?_, ?_⟩
  · refine ⟨.slice none 0 0, ?_, b2, .nil _ _ _, by omega⟩
    funext b
    apply propext
    refine ⟨.inl, fun q => ?_⟩
    rcases q with q | ⟨o, n, c, q⟩
    · exact q
    · cases q
  · rintro i O u1 h1 ⟨v, rfl, q1, q2, q3⟩ b hb
    rcases hb with rfl | hb
    · exact q1.1
    · exact q2.lt hb
  · rintro i O T u1 h1 u3 h3 ⟨v, rfl, q1, q2, q3⟩ st hT
    exact ⟨v, rfl, q1.step st (hT _ (.inl rfl)), q2.step st (fun b hb => hT b (.inr hb)), Nat.le_trans q3 st.ge.sz⟩
  · refine .inr ⟨45, [.pointer (some ⟨h.size + 1, 0, none⟩)], rfl, ?_⟩
    rintro i t O u1 h1 Q QP hti ⟨v, rfl, q1, q2, q3⟩ - hQ
    have hi := (List.getElem?_eq_some_iff.1 hti).1
    refine ⟨rfl, u1, h.size + 1, h.size + 2, v, _, t, rfl, q1, q2, by omega, q3, by rw [List.length_take]; omega, fun u3 h3 v3 s3 b3 o3 hO3 => ?_⟩
    refine hQ (fun b => b = h.size + 1 ∨ OwnB v3 b) u3 h3 s3 ⟨v3, rfl, b3, ?_, Nat.le_trans q3 s3.ge.sz⟩ (fun b hb => ?_)
    · rw [List.take_add_one, hti]; exact o3
    · rcases hb with hb | hb
      · exact .inl (.inl hb)
      · exact (hO3 b hb).imp .inr id
  · rintro u3 h3 O m c o s3 ⟨v, rfl, q1, q2, q3⟩ hO he
    rw [eachF_all (fun _ => rfl)] at he
    simp only [Nat.zero_add, Prod.mk.injEq] at he
    obtain ⟨rfl, he⟩ := he
    rw [List.take_length] at q2
    have hc : (scanF s).2.1 = c := by rw [he]
    have ho : (scanF s).2.2 = o := by rw [he]
    rw [hc, ho] at hK
    have R3 := R2.step s3 (by omega)
    have st3 := st2.trans s3 (fun b hb hq => by omega)
    obtain ⟨va, vc, rfl, -, -⟩ := q2.sl
    have q11 := q1.1; have R31 := R3.1
    have R32 := R3.2.1
    simp only [List.length_cons, List.length_nil] at R32
    have w1 := st3.setsR (b := h.size) (o := 0) (l := fltE c o) (.inl (Nat.le_refl _)) (by rw [R3.2.2.2.1]; exact Nat.zero_le _) (by rw [R32]; simp [fltE])
    have w2 := Step.sets (S := fun b => b = h.size) u3 h3 (b := h.size) (o := 0) (fltE c o) rfl (by rw [R3.2.2.2.1]; exact Nat.zero_le _) (by rw [R32]; simp [fltE])
    have R4 := R3.sets (l := fltE c o) rfl
    have f0 : (hsets h3 h.size 0 (fltE c o)).size = h3.size := hsets_size _ _ _ _
    have q5 := q2.step w2 (fun b hb he => by have := q2.ge hb; omega)
    refine ⟨by simp (disch := first | omega | (simp only [e_ssz, e_psz, e_hszs, List.length_cons, List.length_nil]; try omega; done)) only [go_sem], ?_⟩
    simp only [fltE] at w1 R4 f0 q5
    have R41 := R4.1
    simp only [fltE]
    simp (disch := first | omega | (simp only [e_ssz, e_psz, e_hszs, List.length_cons, List.length_nil]; try omega; done)) only [↓reduceIte, go_sem, q1.at, q1.2.1, R32, R3.2.2.1, R4.at, R4.2.1]
    exact hK _ _ _ w1.pushR ((q5.step0 (Step.push0 S0 _ _ _ _)).mono (by omega))
end Go.Proofs.YtlenjlidahnklaaDoor
