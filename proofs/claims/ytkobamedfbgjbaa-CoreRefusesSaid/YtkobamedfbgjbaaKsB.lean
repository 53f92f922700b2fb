/- CoreRefuses: the spoiler; the law. -/
import Derived.Test.YtkobamedfbgjbaaKsA
import Derived.Test.YtkobamedfbgjbaaKlA
import Derived.Test.YtkobamedfbgjbaaKlE
namespace Edict
open Go Go.Ev
theorem wf_spoil {w a b : Int} (h0 : 0 ≤ w) (h6 : w < 6) (ha : Rep.wf a) (hb : Rep.wf b) : Rep.wf (spoilC w a b) := by
  have hx : Rep.wf (varA [88] a) := wf_varA (by decide) ha
  have hn : Rep.wf (varA [95] b) := wf_varA (by decide) hb
  have h1 : ∀ t : Term, Rep.wf t → ∀ x ∈ [t], Rep.wf x := fun t ht x hx => by rcases List.mem_singleton.1 hx with rfl; exact ht
  have h2 : ∀ s t : Literal, Rep.wf s → Rep.wf t → ∀ x ∈ [s, t], Rep.wf x := fun s t hs ht x hx => by
    simp only [List.mem_cons, List.not_mem_nil, or_false] at hx
    rcases hx with rfl | rfl
    · exact hs
    · exact ht
  have hz0 : Rep.wf ((z0, [], 0) : Atom) := wf_zz (by decide) (by decide) (fun t ht => nomatch ht) w0
  have hg : Rep.wf spG := wf_spL w0
  rcases way_cases h0 h6 with rfl | rfl | rfl | rfl | rfl | rfl
  · exact ⟨wf_zz (by decide) (by show (1 : Nat) ≤ 1000; decide) (h1 _ hx) w0, wfl (by show (1 : Nat) ≤ 1000000; decide) (fun x hx => by rcases List.mem_singleton.1 hx with rfl; exact wf_spQ)⟩
  · exact ⟨hz0, wfl (by show (2 : Nat) ≤ 1000000; decide) (h2 _ _ wf_spQ (wf_negA (wf_zz (by decide) (by show (1 : Nat) ≤ 1000; decide) (h1 _ hn) w0)))⟩
  · exact ⟨hz0, wfl (by show (2 : Nat) ≤ 1000000; decide) (h2 _ _ ⟨w3, wf_zatom, w1, wf_varA (by decide) w0, hx, w0⟩ wf_spQ)⟩
  · refine ⟨hz0, wfl (by show (3 : Nat) ≤ 1000000; decide) fun x hx => ?_⟩
    have hx : x ∈ [spG, spG, spL b] := hx
    simp only [List.mem_cons, List.not_mem_nil, or_false] at hx
    rcases hx with rfl | rfl | rfl
    · exact hg
    · exact hg
    · exact wf_spL hb
  · exact ⟨hz0, wfl (by show (2 : Nat) ≤ 1000000; decide) (h2 _ _ wf_spQ (wf_negA (wf_zz (by decide) (by show (0 : Nat) ≤ 1000; decide) (fun t ht => nomatch ht) ha)))⟩
  · exact ⟨wf_zz (by decide) (by show (1 : Nat) ≤ 1000; decide) (h1 _ hx) w0, wfl (by show (0 : Nat) ≤ 1000000; decide) (fun x hx => nomatch hx)⟩
end Edict
namespace Go.Proofs.Ytkobamedfbgjbaa
open Go Go.Ev Edict
theorem klSpoiler_ok {vs : List Value} {h : H} {K : Value → H → Prop} {KP : List PanicEntry → H → Prop} (hC : C_spoil vs h K) : HCX Try.prog 15 vs h K KP := by
  obtain ⟨u, w, a, b, rfl, h0, h6, hK⟩ := hC
  have hm := mlen'
  refine klSpoiler_H G0 (fun _ _ _ _ _ h => h.elim) _ _ _ ?_
  rw [klSpoiler_cut]
  have s1 := Step.push0 S0 u h #[str [], .slice none 0 0, .int .i64 0, .slice none 0 0] 48
  have B6 : Blk (ub u h.size 0) (h.push (.cells #[str [], .slice none 0 0, .int .i64 0, .slice none 0 0] 48)) h.size [str [], .slice none 0 0, .int .i64 0, .slice none 0 0] := Blk.new [str [], .slice none 0 0, .int .i64 0, .slice none 0 0] _
  simp (disch := first | omega | (simp only [e_ssz, e_psz, e_hszs, List.length_cons, List.length_nil]; try omega; done)) only [↓reduceIte, go_sem, sF, sS, klSpoiler_S]
  obtain ⟨p, hp⟩ : ∃ p, p = h.size := ⟨_, rfl⟩
  obtain ⟨u1, hu1⟩ : ∃ u1, u1 = ub u h.size 0 := ⟨_, rfl⟩
  obtain ⟨h1, hh1⟩ : ∃ h1, h1 = h.push (.cells #[str [], .slice none 0 0, .int .i64 0, .slice none 0 0] 48) := ⟨_, rfl⟩
  have z1' : h1.size = p + 1 := by rw [hh1, hp]; simp only [e_psz]
  rw [← hu1, ← hh1] at s1 B6
  rw [← hh1, ← hp]
  rw [← hp] at B6
  clear hu1 hh1
  have s2 := Step.push0 S0 u1 h1 #[.int .i64 4, .int .i64 0, str [88], .int .i64 a] 94
  have B9 : Blk (ub u1 h1.size 0) (h1.push (.cells #[.int .i64 4, .int .i64 0, str [88], .int .i64 a] 94)) h1.size [.int .i64 4, .int .i64 0, str [88], .int .i64 a] := Blk.new [.int .i64 4, .int .i64 0, str [88], .int .i64 a] _
  obtain ⟨u2, hu2⟩ : ∃ u2, u2 = ub u1 h1.size 0 := ⟨_, rfl⟩
  obtain ⟨h2, hh2⟩ : ∃ h2, h2 = h1.push (.cells #[.int .i64 4, .int .i64 0, str [88], .int .i64 a] 94) := ⟨_, rfl⟩
  have z2' : h2.size = p + 2 := by rw [hh2, e_psz, z1']
  rw [← hu2, ← hh2] at s2 B9
  rw [← hh2]
  rw [z1'] at B9
  clear hu2 hh2
  have s3 := Step.push0 S0 u2 h2 #[.int .i64 4, .int .i64 0, str [95], .int .i64 b] 94
  have B10 : Blk (ub u2 h2.size 0) (h2.push (.cells #[.int .i64 4, .int .i64 0, str [95], .int .i64 b] 94)) h2.size [.int .i64 4, .int .i64 0, str [95], .int .i64 b] := Blk.new [.int .i64 4, .int .i64 0, str [95], .int .i64 b] _
  obtain ⟨u3, hu3⟩ : ∃ u3, u3 = ub u2 h2.size 0 := ⟨_, rfl⟩
  obtain ⟨h3, hh3⟩ : ∃ h3, h3 = h2.push (.cells #[.int .i64 4, .int .i64 0, str [95], .int .i64 b] 94) := ⟨_, rfl⟩
  have z3' : h3.size = p + 3 := by rw [hh3, e_psz, z2']
  rw [← hu3, ← hh3] at s3 B10
  rw [← hh3]
  rw [z2'] at B10
  clear hu3 hh3
  have s4 := Step.push S0 u3 h3 #[.int .i64 4, .int .i64 0, str [89], .int .i64 0] 94 4
  have iY : IsSl (ub u3 h3.size 4) (h3.push (.cells #[.int .i64 4, .int .i64 0, str [89], .int .i64 0] 94)) (.slice (some ⟨h3.size, 0, none⟩) 1 1) [varA [89] 0] := isSl_push1 94 (x := varA [89] 0) rep_varA
  obtain ⟨u4, hu4⟩ : ∃ u4, u4 = ub u3 h3.size 4 := ⟨_, rfl⟩
  obtain ⟨h4, hh4⟩ : ∃ h4, h4 = h3.push (.cells #[.int .i64 4, .int .i64 0, str [89], .int .i64 0] 94) := ⟨_, rfl⟩
  have z4' : h4.size = p + 4 := by rw [hh4, e_psz, z3']
  rw [← hu4, ← hh4] at s4 iY
  rw [← hh4]
  rw [z3'] at iY
  clear hu4 hh4
  obtain ⟨c, hc⟩ : ∃ c : Option Addr, c = some ⟨p + 3, 0, none⟩ := ⟨_, rfl⟩
  have s5 := Step.push0 S0 u4 h4 #[.int .i64 1, str z1, .slice c 1 1, .int .i64 0, .int .i64 0, .int .i64 0, .int .i64 0, str [], .int .i64 0, .int .i64 0, .int .i64 0, str [], .int .i64 0, .int .i64 0] 109
  have B11 : Blk (ub u4 h4.size 0) (h4.push (.cells #[.int .i64 1, str z1, .slice c 1 1, .int .i64 0, .int .i64 0, .int .i64 0, .int .i64 0, str [], .int .i64 0, .int .i64 0, .int .i64 0, str [], .int .i64 0, .int .i64 0] 109)) h4.size [.int .i64 1, str z1, .slice c 1 1, .int .i64 0, .int .i64 0, .int .i64 0, .int .i64 0, str [], .int .i64 0, .int .i64 0, .int .i64 0, str [], .int .i64 0, .int .i64 0] := Blk.new [.int .i64 1, str z1, .slice c 1 1, .int .i64 0, .int .i64 0, .int .i64 0, .int .i64 0, str [], .int .i64 0, .int .i64 0, .int .i64 0, str [], .int .i64 0, .int .i64 0] _
  rw [z4'] at B11
  rw [← hc] at iY
  have X : ∀ σ : Env, σ 1 = .int .i64 a → σ 2 = .int .i64 b → σ 6 = .pointer (some ⟨p, 0, none⟩) → σ 9 = .pointer (some ⟨p + 1, 0, none⟩) → σ 10 = .pointer (some ⟨p + 1 + 1, 0, none⟩) → σ 11 = .pointer (some ⟨p + 1 + 1 + 1 + 1, 0, none⟩) → SpX u h a b p c σ _ _ := fun σ g1 g2 g6 g9 g10 g11 =>
    ⟨(((s1.trans0 s2).trans0 s3).trans0 s4).trans0 s5, by omega, g1, g2, g6, g9, g10, g11, (((B6.step0 s2).step0 s3).step0 s4).step0 s5, ((B9.step0 s3).step0 s4).step0 s5, (B10.step0 s4).step0 s5, by rw [← z4'] at B11 ⊢; exact B11, iY.mono s5.ge⟩
  rw [show (some ⟨p + 1 + 1 + 1, 0, none⟩ : Option Addr) = c from hc.symm]
  have hz : ([122, 49] : List UInt8) = z1 := rfl
  rw [hz]
  rcases way_cases h0 h6 with rfl | rfl | rfl | rfl | rfl | rfl
  · exact sp0_ok (X _ (by simp [upd]) (by simp [upd]) (by simp [upd]) (by simp [upd]) (by simp [upd]) (by simp [upd])) (by simp [upd]) hK
  · exact sp1_ok (X _ (by simp [upd]) (by simp [upd]) (by simp [upd]) (by simp [upd]) (by simp [upd]) (by simp [upd])) (by simp [upd]) hK
  · exact sp2_ok (X _ (by simp [upd]) (by simp [upd]) (by simp [upd]) (by simp [upd]) (by simp [upd]) (by simp [upd])) (by simp [upd]) hK
  · exact sp3_ok (X _ (by simp [upd]) (by simp [upd]) (by simp [upd]) (by simp [upd]) (by simp [upd]) (by simp [upd])) (by simp [upd]) hK
  · exact sp4_ok (X _ (by simp [upd]) (by simp [upd]) (by simp [upd]) (by simp [upd]) (by simp [upd]) (by simp [upd])) (by simp [upd]) hK
  · exact sp5_ok (X _ (by simp [upd]) (by simp [upd]) (by simp [upd]) (by simp [upd]) (by simp [upd]) (by simp [upd])) (by simp [upd]) hK
def G_klRefuses : Ctr := fun f vs h K _ => (f = 7 ∧ C_right vs h K) ∨ (f = 9 ∧ C_build vs h K) ∨ (f = 15 ∧ C_spoil vs h K) ∨ (f = 16 ∧ C_klMod vs h K)
theorem G_klRefuses_ok : GOk Try.prog G_klRefuses := by
  rintro f vs h K KP (⟨rfl, hC⟩ | ⟨rfl, hC⟩ | ⟨rfl, hC⟩ | ⟨rfl, hC⟩)
  · exact klRight_ok hC
  · exact crBuild_ok hC
  · exact klSpoiler_ok hC
  · exact klMod_ok hC
theorem isSl_take {α : Type} [Rep α] {u : U} {h : H} {a : Option Addr} {n c : Nat} {l : List α} (hs : IsSl u h (.slice a n c) l) {k : Nat} (hk : k ≤ l.length) : IsSl u h (.slice a k c) (l.take k) := by
  obtain ⟨a', n', c', h1, h2, h3, h4, h5, h6⟩ := hs
  simp only [Value.slice.injEq] at h1
  obtain ⟨rfl, rfl, rfl⟩ := h1
  have hl : (l.take k).length = k := by rw [List.length_take]; omega
  refine ⟨a, k, c, rfl, hl.symm, by omega, h4, h5, fun hne => ?_⟩
  have hne' : l ≠ [] := fun e => hne (by rw [e]; simp)
  obtain ⟨b, o, e, hb, hu, hz, hr⟩ := h6 hne'
  have := Nat.mul_le_mul_right (Rep.sz α) hk
  refine ⟨b, o, e, hb, by rw [hl]; omega, by rw [hl]; omega, fun i x hx => hr i x ?_⟩
  rw [List.getElem?_take] at hx
  split at hx
  · exact hx
  · cases hx
theorem isSl_drop {α : Type} [Rep α] {u : U} {h : H} {a : Option Addr} {n c : Nat} {l : List α} (hs : IsSl u h (.slice a n c) l) {k : Nat} (hk : k ≤ l.length) : ∃ a', (∀ hh : H, v2 (.cutLo (Rep.sz α)) (.slice a n c) (.int .i64 k) hh = .slice a' (n - k) (c - k)) ∧ IsSl u h (.slice a' (n - k) (c - k)) (l.drop k) := by
  obtain ⟨a', n', c', h1, h2, h3, h4, h5, h6⟩ := hs
  simp only [Value.slice.injEq] at h1
  obtain ⟨rfl, rfl, rfl⟩ := h1
  refine ⟨if c = k then a else a.map (·.add (k * Rep.sz α)), fun hh => by simp [v2, ti]; rfl, _, _, _, rfl, by rw [List.length_drop, h2], by omega, by omega, fun hn => ?_, fun hne => ?_⟩
  · split at hn
    · omega
    · rw [Option.map_eq_none_iff] at hn; have := h5 hn; omega
  · have hlt : k < l.length := by
      rcases Nat.lt_or_ge k l.length with q | q
      · exact q
      · exact absurd (List.drop_eq_nil_of_le q) hne
    obtain ⟨b, o, rfl, hb, hu, hz, hr⟩ := h6 (fun e => by rw [e] at hlt; simp at hlt)
    have e1 : (l.drop k).length * Rep.sz α + k * Rep.sz α = l.length * Rep.sz α := by rw [List.length_drop, ← Nat.add_mul, Nat.sub_add_cancel hk]
    rw [if_neg (by omega)]
    refine ⟨b, o + k * Rep.sz α, by simp [Addr.add], hb, by omega, by omega, fun i x hx => ?_⟩
    rw [List.getElem?_drop] at hx
    have := hr (k + i) x hx
    rwa [show o + (k + i) * Rep.sz α = o + k * Rep.sz α + i * Rep.sz α by rw [Nat.add_mul]; omega] at this
theorem rep_core_inv {u : U} {h : H} {k : Core} {cs : List Value} (hr : Rep.rep u h k cs) : ∃ v0 v1 v2 v3, cs = [v0, v1, v2, v3] ∧ IsSl u h v0 k.1 ∧ IsSl u h v1 k.2.1 ∧ IsSl u h v2 k.2.2.1 ∧ IsSl u h v3 k.2.2.2 := by
  obtain ⟨_, _, rfl, ⟨v0, rfl, h0⟩, _, _, rfl, ⟨v1, rfl, h1⟩, _, _, rfl, ⟨v2, rfl, h2⟩, v3, rfl, h3⟩ := hr
  exact ⟨v0, v1, v2, v3, rfl, h0, h1, h2, h3⟩
def reT : S := sS (sS (sS (sS klRefuses_S)))
theorem klRefuses_cut : klRefuses_S = .seq (sF klRefuses_S) (.seq (sF (sS klRefuses_S)) (.seq (sF (sS (sS klRefuses_S))) (.seq (sF (sS (sS (sS klRefuses_S)))) reT))) := rfl
def reU : S := sS reT
theorem reT_cut : reT = .seq (sF reT) reU := rfl
theorem reU_ok {K : Value → H → Prop} {KP : List PanicEntry → H → Prop} {u u1 : U} {h h1 : H} {σ : Env} {p3 p5 p8 : Nat} {ra : Option Addr} {rc : Nat} {q : List Clause} {sw sa sb sc w : Int} {l : List Value}
    (st : Step S0 u h u1 h1) (e3 : σ 3 = .pointer (some ⟨p3, 0, none⟩)) (e5 : σ 5 = .pointer (some ⟨p5, 0, none⟩)) (e8 : σ 8 = .pointer (some ⟨p8, 0, none⟩)) (e9 : σ 9 = .int .i64 (spoilW w)) (e10 : σ 10 = .int .i64 (spoilO w sb sc))
    (B3 : Blk u1 h1 p3 [.int .i64 sw, .int .i64 sa, .int .i64 sb, .int .i64 sc]) (B5 : Blk u1 h1 p5 [.slice ra q.length rc]) (B8 : Blk u1 h1 p8 l) (hr : Rep.rep u1 h1 (spoilC w sb sc) l) (hq : IsSl u1 h1 (.slice ra q.length rc) q)
    (hn : ∀ c ∈ q, ClauseN c) (hl : q.length ≤ 200) (hwq : Rep.wf q) (h0 : 0 ≤ w) (h6 : w < 6) (hb : Rep.wf sb) (hc : Rep.wf sc) (hP : PowT u1 h1)
    (hK : ∀ u' h', Step S0 u h u' h' → K (.bool true) h') : wpS G_klRefuses reU (retQ klRefuses_E (callK K KP)) σ h1 := by
  have hm := mlen'
  have b3 := B3.1
  have b5 := B5.1
  have b8 := B8.1
  simp (disch := first | omega | (simp only [e_ssz, e_psz, e_hszs, List.length_cons, List.length_nil]; try omega; done)) only [↓reduceIte, go_sem, reU, reT, sS, klRefuses_S, e3, e5, B3.at, B3.2.1, B5.at, B5.2.1]
  refine effS_call (.inr (.inr (.inr ⟨rfl, _, _, rfl, by omega, by omega, by simp (disch := first | omega | (simp only [e_ssz, e_psz, e_hszs, List.length_cons, List.length_nil]; try omega; done)) only [go_sem], ?_⟩)))
  obtain ⟨k, hk⟩ : ∃ k : Nat, sa % ((q.length : Int) + 1) = k := ⟨(sa % ((q.length : Int) + 1)).toNat, by have := Int.emod_nonneg sa (show ((q.length : Int) + 1) ≠ 0 by omega); omega⟩
  have hkl : k ≤ q.length := by have := Int.emod_lt_of_pos sa (show 0 < ((q.length : Int) + 1) by omega); omega
  obtain ⟨ra', rc', hre, q3, q4⟩ := hq.sl
  cases hre
  rw [hk]
  simp (disch := first | omega | (simp only [e_ssz, e_psz, e_hszs, List.length_cons, List.length_nil]; try omega; done)) only [↓reduceIte, go_sem, e5, B5.at, B5.2.1, eq_true (show k ≤ rc by omega)]
  refine effS_app (.nil h1.size _ _) (isSl_take hq hkl) rfl rfl (Nat.le_refl _) (by rw [List.length_take]; simp only [List.length_nil]; omega) fun a2 n2 c2 u2 h2 o2 s2 => ⟨by simp (disch := first | omega | (simp only [e_ssz, e_psz, e_hszs, List.length_cons, List.length_nil]; try omega; done)) only [go_sem], ?_⟩
  have s2 : Step S0 u1 h1 u2 h2 := s2.mono (fun i _ hi => absurd hi ownb_none)
  rw [List.nil_append] at o2
  have B52 := B5.step0 s2
  have B82 := B8.step0 s2
  have b52 := B52.1
  have b82 := B82.1
  have hr2 := Rep.mono s2.ge hr
  rw [rep_clause] at hr2
  obtain ⟨va, vb, rfl, ia, ib⟩ := hr2
  obtain ⟨xa, ya, rfl, -, -⟩ := ia.sl
  obtain ⟨xb, yb, rfl, -, -⟩ := ib.sl
  simp (disch := first | omega | (simp only [e_ssz, e_psz, e_hszs, List.length_cons, List.length_nil]; try omega; done)) only [↓reduceIte, go_sem, e8, B82.at, B82.2.1]
  have hge := s2.ge.sz
  refine effS_app1o rfl o2 (x := spoilC w sb sc) (rep_clause.mpr ⟨_, _, rfl, ia, ib⟩) rfl rfl hge (by rw [List.length_take]; omega) fun a3 n3 c3 u3 h3 o3 s3 b3' => ⟨by simp (disch := first | omega | (simp only [e_ssz, e_psz, e_hszs, List.length_cons, List.length_nil]; try omega; done)) only [go_sem], ?_⟩
  have st3 := s2.own s3 (fun j hj => o2.ge hj)
  have B53 := B5.step0 st3
  have b53 := B53.1
  have hq3 := hq.mono st3.ge
  obtain ⟨a4, hcut, hd⟩ := isSl_drop hq3 hkl
  have hcut : ∀ hh : H, v2 (.cutLo 4) (.slice ra q.length rc) (.int .i64 k) hh = .slice a4 (q.length - k) (rc - k) := hcut
  simp (disch := first | omega | (simp only [e_ssz, e_psz, e_hszs, List.length_cons, List.length_nil]; try omega; done)) only [↓reduceIte, go_sem, e5, B53.at, B53.2.1, hcut, eq_true (show k ≤ q.length by omega)]
  have hge3 := st3.ge.sz
  refine effS_app o3 hd rfl rfl hge3 (by simp only [List.length_append, List.length_take, List.length_drop, List.length_cons, List.length_nil]; omega) fun a5 n5 c5 u5 h5 o5 s5 => ⟨by simp (disch := first | omega | (simp only [e_ssz, e_psz, e_hszs, List.length_cons, List.length_nil]; try omega; done)) only [go_sem], ?_⟩
  have st5 := st3.own s5 (fun j hj => o3.ge hj)
  have hL : q.take k ++ [spoilC w sb sc] ++ q.drop k = q.take k ++ spoilC w sb sc :: q.drop k := by simp
  rw [hL] at o5
  have i5 := o5.isSl
  have hbad := build_bad (a := sb) (b := sc) h0 h6 (l := q.take k) (r := q.drop k) (fun c hc => hn c (List.mem_of_mem_take hc)) (fun c hc => hn c (List.mem_of_mem_drop hc)) (by rw [List.length_take, List.length_drop]; omega)
  have hwf : Rep.wf (q.take k ++ spoilC w sb sc :: q.drop k) := wfl (by simp only [List.length_append, List.length_take, List.length_drop, List.length_cons]; omega) fun c hc => by
    rcases List.mem_append.1 hc with hc | hc
    · exact hwq.2 c (List.mem_of_mem_take hc)
    · rcases List.mem_cons.1 hc with rfl | hc
      · exact wf_spoil h0 h6 hb (by assumption)
      · exact hwq.2 c (List.mem_of_mem_drop hc)
  simp (disch := first | omega | (simp only [e_ssz, e_psz, e_hszs, List.length_cons, List.length_nil]; try omega; done)) only [↓reduceIte, go_sem]
  refine effS_call (.inr (.inl ⟨rfl, u5, _, _, _, [], rfl, i5, IsSl.nil _ _, hwf, wfl (by decide) (fun x hx => nomatch hx), hP.mono st5.ge, fun u6 h6' l6 s6 hr6 => ⟨by simp (disch := first | omega | (simp only [e_ssz, e_psz, e_hszs, List.length_cons, List.length_nil]; try omega; done)) only [go_sem], ?_⟩⟩))
  rw [hbad] at hr6 ⊢
  obtain ⟨v0, v1, v2, v3, rfl, i0, i1, i2, i3⟩ := rep_core_inv hr6
  obtain ⟨x0, y0, rfl, -, -⟩ := i0.sl
  obtain ⟨x1, y1, rfl, -, -⟩ := i1.sl
  obtain ⟨x2, y2, rfl, -, -⟩ := i2.sl
  obtain ⟨x3, y3, rfl, -, -⟩ := i3.sl
  have st6 := st.trans0 (st5.trans0 s6)
  simp only [fV, core0, List.length_nil]
  simp (disch := first | omega | (simp only [e_ssz, e_psz, e_hszs, List.length_cons, List.length_nil]; try omega; done)) only [↓reduceIte, go_sem, klRefuses_E, e9, e10]
  exact hK _ _ ((st6.trans0 (Step.push0 S0 _ _ _ _)).trans0 (Step.push0 S0 _ _ _ _))
theorem reT_ok {K : Value → H → Prop} {KP : List PanicEntry → H → Prop} {u u1 : U} {h h1 : H} {σ : Env} {p3 p5 : Nat} {ra : Option Addr} {rc : Nat} {q : List Clause} {sw sa sb sc : Int}
    (st : Step S0 u h u1 h1) (e3 : σ 3 = .pointer (some ⟨p3, 0, none⟩)) (e5 : σ 5 = .pointer (some ⟨p5, 0, none⟩))
    (B3 : Blk u1 h1 p3 [.int .i64 sw, .int .i64 sa, .int .i64 sb, .int .i64 sc]) (B5 : Blk u1 h1 p5 [.slice ra q.length rc]) (hq : IsSl u1 h1 (.slice ra q.length rc) q)
    (hn : ∀ c ∈ q, ClauseN c) (hl : q.length ≤ 200) (hwq : Rep.wf q) (hb : Rep.wf sb) (hc : Rep.wf sc) (hP : PowT u1 h1)
    (hK : ∀ u' h', Step S0 u h u' h' → K (.bool true) h') : wpS G_klRefuses reT (retQ klRefuses_E (callK K KP)) σ h1 := by
  have hm := mlen'
  have b3 := B3.1
  have h0 : 0 ≤ sw % 6 := by omega
  have h6 : sw % 6 < 6 := by omega
  rw [reT_cut]
  obtain ⟨M, hM⟩ : ∃ M : Env → H → Prop, M = fun σ' h2 => σ' 3 = .pointer (some ⟨p3, 0, none⟩) ∧ σ' 5 = .pointer (some ⟨p5, 0, none⟩) ∧ σ' 9 = .int .i64 (spoilW (sw % 6)) ∧ σ' 10 = .int .i64 (spoilO (sw % 6) sb sc) ∧ ∃ (u2 : U) (p8 : Nat) (l : List Value), Step S0 u1 h1 u2 h2 ∧ σ' 8 = .pointer (some ⟨p8, 0, none⟩) ∧ Blk u2 h2 p8 l ∧ Rep.rep u2 h2 (spoilC (sw % 6) sb sc) l := ⟨_, rfl⟩
  have fin : ∀ (σ' : Env) (h2 : H) (u2 : U) (p8 : Nat) (l : List Value), Step S0 u1 h1 u2 h2 → σ' 3 = .pointer (some ⟨p3, 0, none⟩) → σ' 5 = .pointer (some ⟨p5, 0, none⟩) → σ' 8 = .pointer (some ⟨p8, 0, none⟩) → σ' 9 = .int .i64 (spoilW (sw % 6)) → σ' 10 = .int .i64 (spoilO (sw % 6) sb sc) → Blk u2 h2 p8 l → Rep.rep u2 h2 (spoilC (sw % 6) sb sc) l → M σ' h2 := fun σ' h2 u2 p8 l q1 q3 q5 q8 q9 q10 q6 q7 => by
    rw [hM]; exact ⟨q3, q5, q9, q10, u2, p8, l, q1, q8, q6, q7⟩
  simp (disch := first | omega | (simp only [e_ssz, e_psz, e_hszs, List.length_cons, List.length_nil]; try omega; done)) only [go_sem, reT, sF, sS, klRefuses_S]
  refine w_join M ?_ ?_
  · have Z8 : Blk (ub u1 h1.size 0) (h1.push (.cells #[str [], .slice none 0 0, .int .i64 0, .slice none 0 0] 48)) h1.size [str [], .slice none 0 0, .int .i64 0, .slice none 0 0] := Blk.new [str [], .slice none 0 0, .int .i64 0, .slice none 0 0] _
    have sZ := Step.push0 S0 u1 h1 #[str [], .slice none 0 0, .int .i64 0, .slice none 0 0] 48
    have C3 := B3.step0 sZ
    have c3 := C3.1
    have z8 := Z8.1
    have late : ∀ (σ : Env) (u2 : U) (h2 : H) (l : List Value), Step S0 (ub u1 h1.size 0) (h1.push (.cells #[str [], .slice none 0 0, .int .i64 0, .slice none 0 0] 48)) u2 h2 → Rep.rep u2 h2 (spoilC (sw % 6) sb sc) l → ∃ u3, Step S0 u1 h1 u3 (hsets h2 h1.size 0 l) ∧ Blk u3 (hsets h2 h1.size 0 l) h1.size l ∧ Rep.rep u3 (hsets h2 h1.size 0 l) (spoilC (sw % 6) sb sc) l := fun σ u2 h2 l s2 hr => by
      have D8 := Z8.step0 s2
      have hl4 : l.length = 4 := Rep.len hr
      have sw' : Step (fun j => j = h1.size) u2 h2 u2 (hsets h2 h1.size 0 l) := Step.sets u2 h2 _ rfl (by rw [D8.2.2.2.1]; exact Nat.le_refl _) (by rw [D8.2.1, hl4]; exact Nat.le_refl _)
      exact ⟨u2, (sZ.trans0 s2).own sw' (fun j e => by have e : j = h1.size := e; omega), D8.sets hl4, Rep.mono sw'.ge hr⟩
    simp (disch := first | omega | (simp only [e_ssz, e_psz, e_hszs, List.length_cons, List.length_nil]; try omega; done)) only [↓reduceIte, go_sem, w_both, e3, B3.at, B3.2.1]
    refine ⟨effS_call (.inr (.inr (.inr ⟨rfl, sw, 6, rfl, by decide, by decide, by simp (disch := first | omega | (simp only [e_ssz, e_psz, e_hszs, List.length_cons, List.length_nil]; try omega; done)) only [↓reduceIte, go_sem, e3, B3.at, B3.2.1], ?_⟩))), effS_call (.inr (.inr (.inr ⟨rfl, sw, 6, rfl, by decide, by decide, by simp (disch := first | omega | (simp only [e_ssz, e_psz, e_hszs, List.length_cons, List.length_nil]; try omega; done)) only [↓reduceIte, go_sem, e3, C3.at, C3.2.1], ?_⟩)))⟩
    · simp (disch := first | omega | (simp only [e_ssz, e_psz, e_hszs, List.length_cons, List.length_nil]; try omega; done)) only [↓reduceIte, go_sem, w_both, e3, B3.at, B3.2.1]
      refine ⟨effS_call (.inr (.inr (.inl ⟨rfl, u1, _, _, _, rfl, h0, h6, fun u2 h2 l s2 hr => ⟨by simp (disch := first | omega | (simp only [e_ssz, e_psz, e_hszs, List.length_cons, List.length_nil]; try omega; done)) only [go_sem], ?_⟩⟩))), effS_call (.inr (.inr (.inl ⟨rfl, ub u1 h1.size 0, _, _, _, rfl, h0, h6, fun u2 h2 l s2 hr => ⟨by simp (disch := first | omega | (simp only [e_ssz, e_psz, e_hszs, List.length_cons, List.length_nil]; try omega; done)) only [go_sem], ?_⟩⟩)))⟩
      · have hrk := hr
        rw [rep_clause] at hr
        obtain ⟨va, vb, rfl, ia, ib⟩ := hr
        obtain ⟨xa, ya, rfl, -, -⟩ := ia.sl
        obtain ⟨xb, yb, rfl, -, -⟩ := ib.sl
        simp (disch := first | omega | (simp only [e_ssz, e_psz, e_hszs, List.length_cons, List.length_nil]; try omega; done)) only [↓reduceIte, go_sem]
        have sN := Step.push0 S0 u2 h2 #[str (spoilC (sw % 6) sb sc).1.1, .slice xa (spoilC (sw % 6) sb sc).1.2.1.length ya, .int .i64 (spoilC (sw % 6) sb sc).1.2.2, .slice xb (spoilC (sw % 6) sb sc).2.length yb] 48
        exact fin _ _ _ h2.size _ (s2.trans0 sN) (by simp [upd, e3]) (by simp [upd, e5]) (by simp [upd]) (by simp [upd]) (by simp [upd]) (Blk.new [str (spoilC (sw % 6) sb sc).1.1, .slice xa (spoilC (sw % 6) sb sc).1.2.1.length ya, .int .i64 (spoilC (sw % 6) sb sc).1.2.2, .slice xb (spoilC (sw % 6) sb sc).2.length yb] _) (Rep.mono sN.ge hrk)
      · obtain ⟨u3, s3, E8, hr3⟩ := late env0 u2 h2 l s2 hr
        have D8 := Z8.step0 s2
        rw [rep_clause] at hr
        obtain ⟨va, vb, rfl, ia, ib⟩ := hr
        obtain ⟨xa, ya, rfl, -, -⟩ := ia.sl
        obtain ⟨xb, yb, rfl, -, -⟩ := ib.sl
        simp (disch := first | omega | (simp only [e_ssz, e_psz, e_hszs, List.length_cons, List.length_nil]; try omega; done)) only [↓reduceIte, go_sem, D8.2.1, D8.2.2.1]
        exact fin _ _ _ h1.size _ s3 (by simp [upd, e3]) (by simp [upd, e5]) (by simp [upd]) (by simp [upd]) (by simp [upd]) E8 hr3
    · simp (disch := first | omega | (simp only [e_ssz, e_psz, e_hszs, List.length_cons, List.length_nil]; try omega; done)) only [↓reduceIte, go_sem]
      refine effS_call (.inr (.inr (.inl ⟨rfl, ub u1 h1.size 0, _, _, _, rfl, h0, h6, fun u2 h2 l s2 hr => ⟨by simp (disch := first | omega | (simp only [e_ssz, e_psz, e_hszs, List.length_cons, List.length_nil]; try omega; done)) only [go_sem], ?_⟩⟩)))
      obtain ⟨u3, s3, E8, hr3⟩ := late env0 u2 h2 l s2 hr
      have D8 := Z8.step0 s2
      rw [rep_clause] at hr
      obtain ⟨va, vb, rfl, ia, ib⟩ := hr
      obtain ⟨xa, ya, rfl, -, -⟩ := ia.sl
      obtain ⟨xb, yb, rfl, -, -⟩ := ib.sl
      simp (disch := first | omega | (simp only [e_ssz, e_psz, e_hszs, List.length_cons, List.length_nil]; try omega; done)) only [↓reduceIte, go_sem, D8.2.1, D8.2.2.1]
      exact fin _ _ _ h1.size _ s3 (by simp [upd, e3]) (by simp [upd, e5]) (by simp [upd]) (by simp [upd]) (by simp [upd]) E8 hr3
  intro σ' h2 hM2
  rw [hM] at hM2
  obtain ⟨f3, f5, f9, f10, u2, p8, l, s2, f8, B8, hr⟩ := hM2
  exact reU_ok (st.trans0 s2) f3 f5 f8 f9 f10 (B3.step0 s2) (B5.step0 s2) B8 hr (hq.mono s2.ge) hn hl hwq h0 h6 hb hc (hP.mono s2.ge) hK
theorem CoreRefuses_hc {u : U} {h : H} {v : Value} {p : List Clause} {sw sa sb sc : Int} (hl : IsSl u h v p) (hwp : Rep.wf p) (hbp : ∀ c ∈ p, ClB c) (hb : Rep.wf sb) (hc : Rep.wf sc) (hP : PowT u h) :
    HCX Try.prog 5 [.agg #[v], .agg #[.int .i64 sw, .int .i64 sa, .int .i64 sb, .int .i64 sc]] h (fun v h' => v = .bool true ∧ Ext0 h h') fun _ _ => False := by
  obtain ⟨la, lc, rfl, q1, q2⟩ := hl.sl
  have hm := mlen'
  refine klRefuses_H G_klRefuses G_klRefuses_ok _ _ ?_
  rw [klRefuses_cut]
  have s0 := Step.push0 S0 u h #[.slice la p.length lc] 24
  have s1 := Step.push0 S0 (ub u h.size 0) (h.push (.cells #[.slice la p.length lc] 24)) #[.int .i64 sw, .int .i64 sa, .int .i64 sb, .int .i64 sc] 63
  have B3 : Blk (ub (ub u h.size 0) (h.push (.cells #[.slice la p.length lc] 24)).size 0) ((h.push (.cells #[.slice la p.length lc] 24)).push (.cells #[.int .i64 sw, .int .i64 sa, .int .i64 sb, .int .i64 sc] 63)) (h.size + 1) [.int .i64 sw, .int .i64 sa, .int .i64 sb, .int .i64 sc] := (Blk.mk (by simp only [e_psz]; omega) (by simp (disch := first | omega | (simp only [e_ssz, e_psz, e_hszs, List.length_cons, List.length_nil]; try omega; done)) only [go_sem]) (by simp (disch := first | omega | (simp only [e_ssz, e_psz, e_hszs, List.length_cons, List.length_nil]; try omega; done)) only [go_sem]) (by repeat (first | (refine ub_at ?_; simp only [e_psz]; done) | apply ub_zero)) (by simp (disch := first | omega | (simp only [e_ssz, e_psz, e_hszs, List.length_cons, List.length_nil]; try omega; done)) only [go_sem]))
  have st1 := s0.trans0 s1
  simp (disch := first | omega | (simp only [e_ssz, e_psz, e_hszs, List.length_cons, List.length_nil]; try omega; done)) only [↓reduceIte, go_sem, sF, sS, klRefuses_S]
  refine effS_call (.inl ⟨rfl, _, _, p, rfl, hl.mono st1.ge, hbp, fun u2 h2 w2 s2 hw2 => ⟨by simp (disch := first | omega | (simp only [e_ssz, e_psz, e_hszs, List.length_cons, List.length_nil]; try omega; done)) only [go_sem], ?_⟩⟩)
  obtain ⟨ra, rc, rfl, -, -⟩ := hw2.sl
  have B32 := B3.step0 s2
  have s3 := Step.push0 S0 u2 h2 #[.slice ra (rightF p).length rc] 24
  have Q5 : Blk (ub u2 h2.size 0) (h2.push (.cells #[.slice ra (rightF p).length rc] 24)) h2.size [.slice ra (rightF p).length rc] := Blk.new [.slice ra (rightF p).length rc] _
  have B33 := B32.step0 s3
  have st3 := (st1.trans0 s2).trans0 s3
  have hw3 := hw2.mono s3.ge
  simp (disch := first | omega | (simp only [e_ssz, e_psz, e_hszs, List.length_cons, List.length_nil]; try omega; done)) only [↓reduceIte, go_sem]
  refine effS_call (.inr (.inl ⟨rfl, _, _, _, rightF p, [], rfl, hw3, IsSl.nil _ _, wf_right hwp, wfl (by decide) (fun x hx => nomatch hx), hP.mono st3.ge, fun u4 h4 l4 s4 hr4 => ⟨by simp (disch := first | omega | (simp only [e_ssz, e_psz, e_hszs, List.length_cons, List.length_nil]; try omega; done)) only [go_sem], ?_⟩⟩))
  rw [right_built0] at hr4 ⊢
  have Q54 := Q5.step0 s4
  have B34 := B33.step0 s4
  have st4 := st3.trans0 s4
  have hw4 := hw3.mono s4.ge
  obtain ⟨v0, v1, v2, v3, rfl, i0, i1, i2, i3⟩ := rep_core_inv hr4
  obtain ⟨x0, y0, rfl, -, -⟩ := i0.sl
  obtain ⟨x1, y1, rfl, -, -⟩ := i1.sl
  obtain ⟨x2, y2, rfl, -, -⟩ := i2.sl
  obtain ⟨x3, y3, rfl, -, -⟩ := i3.sl
  have hps : (coreF (rightF p) []).1 = psF (rightF p) [] := rfl
  have hqn := right_n p
  have hwr := wf_right hwp
  generalize coreF (rightF p) [] = cF at *
  generalize hq : rightF p = q at *
  have s5 := Step.push0 S0 u4 h4 #[.slice x0 cF.1.length y0, .slice x1 cF.2.1.length y1, .slice x2 cF.2.2.1.length y2, .slice x3 cF.2.2.2.length y3] 33
  have s6 := Step.push0 S0 (ub u4 h4.size 0) (h4.push (.cells #[.slice x0 cF.1.length y0, .slice x1 cF.2.1.length y1, .slice x2 cF.2.2.1.length y2, .slice x3 cF.2.2.2.length y3] 33)) #[.int .i64 0, .int .i64 0, .int .i64 0] 36
  have st6 := (st4.trans0 s5).trans0 s6
  have Q56 := (Q54.step0 s5).step0 s6
  have B36 := (B34.step0 s5).step0 s6
  have hw6 := (hw4.mono s5.ge).mono s6.ge
  have q54 := Q54.1
  have q56 := Q56.1
  simp only [fV]
  simp (disch := first | omega | (simp only [e_ssz, e_psz, e_hszs, List.length_cons, List.length_nil]; try omega; done)) only [↓reduceIte, go_sem, Q54.at, Q54.2.1]
  by_cases hz : q.length = 0
  · simp (disch := first | omega | (simp only [e_ssz, e_psz, e_hszs, List.length_cons, List.length_nil]; try omega; done)) only [go_sem, eq_false (show ¬ (0 : Int) < (q.length : Int) by omega)]
    exact reT_ok st6 (by simp [upd]) (by simp [upd]) B36 Q56 hw6 hqn.1 hqn.2 hwr hb hc (hP.mono st6.ge) (fun u' h' s => ⟨rfl, s.ext⟩)
  · have hpl := preds_some (q := q) (fun e => hz (by rw [e]; rfl))
    rw [← hps] at hpl
    simp (disch := first | omega | (simp only [e_ssz, e_psz, e_hszs, List.length_cons, List.length_nil]; try omega; done)) only [go_sem, eq_true (show (0 : Int) < (q.length : Int) by omega), eq_false (show ¬ (cF.1.length : Int) = 0 by omega)]
    exact reT_ok st6 (by simp [upd]) (by simp [upd]) B36 Q56 hw6 hqn.1 hqn.2 hwr hb hc (hP.mono st6.ge) (fun u' h' s => ⟨rfl, s.ext⟩)
end Go.Proofs.Ytkobamedfbgjbaa
