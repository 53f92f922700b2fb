/- The law ParseLong. -/
import Derived.Test.YtmnfhmbmifompaaDoorPlR
import Derived.Test.YtmnfhmbmifompaaDoorPlQ
import Derived.Test.YtmnfhmbmifompaaDoorPlG
import Derived.Test.YtmnfhmbmifompaaDoorPlU5
namespace Go.Proofs.YtmnfhmbmifompaaDoor
open Go Go.Ev Edict
def C_law1i (vs : List Value) (h : H) (K : Value → H → Prop) : Prop := ∃ (u : U) (s : List UInt8) (n : Int), vs = [str s, .int .i64 n] ∧ s.length ≤ 9223372036854775807 ∧ LxG u h ∧ ∀ u' h', Step S0 u h u' h' → K (.bool true) h'
def G_LongL : Ctr := fun f vs h K _ => (f = 45 ∧ C_mod vs h K) ∨ (f = 47 ∧ C_times vs h K) ∨ (f = 43 ∧ C_faultOf vs h K) ∨ (f = 29 ∧ C_taken vs h K)
theorem G_LongL_ok : GOk Tryd.prog G_LongL := by
  rintro f vs h K KP (⟨rfl, hC⟩ | ⟨rfl, hC⟩ | ⟨rfl, hC⟩ | ⟨rfl, hC⟩)
  · exact plMod_ok hC
  · exact plTimes_ok hC
  · exact plFaultOf_ok hC
  · exact plTaken_ok hC
def lngT : S := sS (sS (sS (sS ParseLong_S)))
theorem lng_cut : ParseLong_S = .seq (sF ParseLong_S) (.seq (sF (sS ParseLong_S)) (.seq (sF (sS (sS ParseLong_S))) (.seq (sF (sS (sS (sS ParseLong_S)))) lngT))) := rfl
theorem ParseLong_ok {vs : List Value} {h : H} {K : Value → H → Prop} {KP : List PanicEntry → H → Prop} (hC : C_law1i vs h K) : HCX Tryd.prog 17 vs h K KP := by
  obtain ⟨u, src, n, rfl, hl, hG, hK⟩ := hC
  refine ParseLong_H G_LongL G_LongL_ok _ _ ?_
  rw [lng_cut]
  obtain ⟨m, hm⟩ : ∃ m : Nat, n % 200 = m := ⟨(n % 200).toNat, by omega⟩
  have hm2 : m < 200 := by omega
  simp (disch := first | omega | (simp only [e_ssz, e_psz, e_hszs, List.length_cons, List.length_nil]; try omega; done)) only [↓reduceIte, go_sem, sF, sS, ParseLong_S, ParseLong_E]
  refine effS_call (.inl ⟨rfl, n, 200, rfl, by omega, by simp (disch := first | omega | (simp only [e_ssz, e_psz, e_hszs, List.length_cons, List.length_nil]; try omega; done)) only [go_sem], ?_⟩)
  rw [hm]
  have tl : ∀ (σ : Env) (t : List UInt8), σ 1 = .int .i64 m → σ 5 = str t → t.length ≤ 100 → wpS G_LongL lngT (retQ ParseLong_E (callK K KP)) σ h := by
    intro σ t e1 e5 ht
    have h4 : IntKind.i64.wrap (65436 + (m : Nat)) = ((65436 + m : Nat) : Int) := by rw [wr64 (by omega) (by omega)]; rfl
    simp (disch := first | omega | (simp only [e_ssz, e_psz, e_hszs, List.length_cons, List.length_nil]; try omega; done)) only [↓reduceIte, go_sem, lngT, sS, ParseLong_S, ParseLong_E, e1, e5, h4]
    refine ⟨by omega, ?_⟩
    refine effS_call (.inr (.inl ⟨rfl, [32], ((65436 + m : Nat) : Int), rfl, by omega, by decide, by simp (disch := first | omega | (simp only [e_ssz, e_psz, e_hszs, List.length_cons, List.length_nil]; try omega; done)) only [go_sem], ?_⟩))
    rw [Int.toNat_natCast]
    have hlen := repF_len [32] (65436 + m)
    obtain ⟨X, hX⟩ : ∃ X, X = repF [32] (65436 + m) := ⟨_, rfl⟩
    rw [← hX] at hlen ⊢
    simp only [List.length_cons, List.length_nil] at hlen
    clear hX
    simp (disch := first | omega | (simp only [e_ssz, e_psz, e_hszs, List.length_cons, List.length_nil]; try omega; done)) only [↓reduceIte, go_sem, e5]
    obtain ⟨T, hT⟩ : ∃ T, T = t ++ [10] ++ X := ⟨_, rfl⟩
    have hTl : T.length = t.length + 1 + X.length := by rw [hT]; simp; omega
    rw [← hT]
    refine ⟨by omega, ?_⟩
    obtain ⟨I, hI⟩ : ∃ I : Nat → Env → H → Prop, I = fun k σ' h' => ∃ u', σ' 5 = str T ∧ σ' 22 = .int .i64 (k : Nat) ∧ k ≤ 4 ∧ Step S0 u h u' h' := ⟨_, rfl⟩
    refine wpS_loop I (fun j => 4 - j) 0 (by rw [hI]; exact ⟨u, by simp [upd], by simp [upd], by omega, Step.refl _ _ _⟩) ?_
    intro k σ' h' hy
    rw [hI] at hy
    obtain ⟨u', f5, f22, hk, st⟩ := hy
    by_cases hlt : k < 4
    case neg =>
      simp (disch := first | omega | (simp only [e_ssz, e_psz, e_hszs, List.length_cons, List.length_nil]; try omega; done)) only [↓reduceIte, go_sem, ParseLong_L1, f22, eq_false (show ¬ (k : Int) < 4 by omega)]
      refine effS_call (.inr (.inr (.inr ⟨rfl, u', rfl, hG.mono st.ge, fun u9 h9 s9 => ⟨by simp (disch := first | omega | (simp only [e_ssz, e_psz, e_hszs, List.length_cons, List.length_nil]; try omega; done)) only [go_sem], ?_⟩⟩)))
      simp (disch := first | omega | (simp only [e_ssz, e_psz, e_hszs, List.length_cons, List.length_nil]; try omega; done)) only [↓reduceIte, go_sem]
      exact hK _ _ (st.trans0 s9)
    simp (disch := first | omega | (simp only [e_ssz, e_psz, e_hszs, List.length_cons, List.length_nil]; try omega; done)) only [↓reduceIte, go_sem, ParseLong_L1, f5, f22, eq_true (show (k : Int) < 4 by omega)]
    refine effS_call (.inr (.inr (.inl ⟨rfl, u', k, T, rfl, hlt, by omega, hG.mono st.ge, fun u3 h3 s3 => ⟨by simp (disch := first | omega | (simp only [e_ssz, e_psz, e_hszs, List.length_cons, List.length_nil]; try omega; done)) only [go_sem], ?_⟩⟩)))
    have hF := @flt_long (rdF k) T
    obtain ⟨F, hFe⟩ : ∃ F, F = fltF (rdF k) T := ⟨_, rfl⟩
    rw [← hFe] at hF ⊢
    obtain ⟨f1, f2⟩ := F
    simp only [Prod.mk.injEq] at hF
    simp only [fltV]
    have s4 := Step.push0 S0 u3 h3 #[.int .i64 f1, .int .i64 0, .int .i64 f2] 27
    have B6 := Blk.new (u := u3) (h := h3) [.int .i64 f1, .int .i64 0, .int .i64 f2] 27
    obtain ⟨h4, hh4⟩ : ∃ h4, h4 = h3.push (.cells #[.int .i64 f1, .int .i64 0, .int .i64 f2] 27) := ⟨_, rfl⟩
    obtain ⟨u4, hu4⟩ : ∃ u4, u4 = ub u3 h3.size 0 := ⟨_, rfl⟩
    have B6' : Blk u4 h4 h3.size [.int .i64 f1, .int .i64 0, .int .i64 f2] := by rw [hu4, hh4]; exact B6
    rw [← hh4, ← hu4] at s4
    clear B6
    have B61 := B6'.1
    have st4 := (st.trans0 s3).trans0 s4
    have next : ∀ (σ'' : Env), σ'' 5 = str T → σ'' 22 = .int .i64 ((k + 1 : Nat) : Int) → I (k + 1) σ'' h4 := by
      intro σ'' g5 g22
      rw [hI]
      exact ⟨u4, g5, g22, by omega, st4⟩
    by_cases hb : 65536 < T.length
    · obtain ⟨rfl, rfl⟩ := hF.2 hb
      simp (disch := first | omega | (simp only [e_ssz, e_psz, e_hszs, List.length_cons, List.length_nil]; try omega; done)) only [↓reduceIte, go_sem, f5, f22, ← hh4, B6'.at, B6'.2.1, eq_true (show (65536 : Int) < (T.length : Nat) by omega)]
      exact ⟨k + 1, next _ (by simp [upd, f5]) (by simp [upd]), by omega⟩
    · by_cases h1 : f1 = 1
      · have h2 : ¬ f2 = 0 := fun q => hb (hF.1 ⟨h1, q⟩)
        simp (disch := first | omega | (simp only [e_ssz, e_psz, e_hszs, List.length_cons, List.length_nil]; try omega; done)) only [↓reduceIte, go_sem, f5, f22, ← hh4, B6'.at, B6'.2.1, eq_false (show ¬ (65536 : Int) < (T.length : Nat) by omega), eq_true h1, eq_false h2]
        exact ⟨k + 1, next _ (by simp [upd, f5]) (by simp [upd]), by omega⟩
      · simp (disch := first | omega | (simp only [e_ssz, e_psz, e_hszs, List.length_cons, List.length_nil]; try omega; done)) only [↓reduceIte, go_sem, f5, f22, ← hh4, B6'.at, B6'.2.1, eq_false (show ¬ (65536 : Int) < (T.length : Nat) by omega), eq_false h1]
        exact ⟨k + 1, next _ (by simp [upd, f5]) (by simp [upd]), by omega⟩
  by_cases h1 : 100 < src.length
  · simp (disch := first | omega | (simp only [e_ssz, e_psz, e_hszs, List.length_cons, List.length_nil]; try omega; done)) only [↓reduceIte, go_sem, eq_true (show (100 : Int) < (src.length : Nat) by omega)]
    exact ⟨by omega, tl _ (src.take 100) (by simp [upd]) (by simp [upd]) (by simp; omega)⟩
  · simp (disch := first | omega | (simp only [e_ssz, e_psz, e_hszs, List.length_cons, List.length_nil]; try omega; done)) only [↓reduceIte, go_sem, eq_false (show ¬ (100 : Int) < (src.length : Nat) by omega)]
    exact tl _ src (by simp [upd]) (by simp [upd]) (by omega)
theorem ParseLong_hc {s : List UInt8} {n : Int} {h : H} (hl : s.length ≤ 9223372036854775807) (_ : -9223372036854775808 ≤ n ∧ n ≤ 9223372036854775807) (hG : LxG (hsz h) h) : HCX Tryd.prog 17 [str s, .int .i64 n] h (fun v h' => v = .bool true ∧ Ext0 h h') fun _ _ => False :=
  ParseLong_ok ⟨hsz h, s, n, rfl, hl, hG, fun u' h' st => ⟨rfl, st.ext⟩⟩
end Go.Proofs.YtmnfhmbmifompaaDoor
