/- strconv.FormatInt, whatever its table of powers holds: it comes back. -/
import Derived.Test.YtdaldilmjhdpaaaKvS
import Derived.Test.YtdaldilmjhdpaaaEvE
namespace Go.Ev
open Go
theorem wr32u {n : Int} (h1 : 0 ≤ n) (h2 : n ≤ 4294967295) : IntKind.u32.wrap n = n := by
  show n % 4294967296 = n
  omega
theorem wr64u {n : Int} (h1 : 0 ≤ n) (h2 : n ≤ 18446744073709551615) : IntKind.u64.wrap n = n := by
  show n % 18446744073709551616 = n
  omega
theorem tmodn {a b : Int} (h : 0 ≤ a) : a.tmod b = a % b := Int.tmod_eq_emod_of_nonneg h
theorem tdivn {a b : Int} (h : 0 ≤ a) : a.tdiv b = a / b := Int.tdiv_eq_ediv_of_nonneg h
/-- A row of bytes, whichever. -/
def Byt (h : H) (b n : Nat) : Prop := hsz h b = n ∧ hfr h b = (0, 0) ∧ ∀ i, i < n → ∃ x : UInt8, Go.Ev.hv h b i = .int .u8 x.toNat
theorem Byt.set {h : H} {b n o : Nat} {x : UInt8} (k : Byt h b n) : Byt (hset h b o (.int .u8 x.toNat)) b n := by
  obtain ⟨k1, k2, k3⟩ := k
  refine ⟨by rw [hset_sz]; exact k1, by rw [hset_fr]; exact k2, fun i hi => ?_⟩
  by_cases e : i = o
  · subst e
    refine ⟨x, ?_⟩
    unfold Go.Ev.hv hc
    rw [hset_get, if_pos rfl]
    unfold hsz at k1
    cases hx : h[b]? with
    | none => rw [hx] at k1; simp at k1; omega
    | some o =>
      rw [hx] at k1
      cases o with
      | cells c t f => simp only at k1; simp [k1, hi]
      | _ => simp at k1; omega
  · rw [hset_hv (.inr e)]; exact k3 i hi
theorem Byt.setw {h : H} {b n o : Nat} {z : Int} (k : Byt h b n) : Byt (hset h b o (.int .u8 (IntKind.u8.wrap z))) b n := by
  have e : IntKind.u8.wrap z = ((UInt8.ofNat (z % 256).toNat).toNat : Int) := by
    have : IntKind.u8.wrap z = z % 256 := rfl
    rw [this, UInt8.toNat_ofNat']
    omega
  rw [e]; exact k.set
end Go.Ev
namespace Go.Proofs.Ytdaldilmjhdpaaa
open Go Go.Ev
theorem l0_len : KvS_l0.length = 200 := by kernel_rfl
def C_b10 (vs : List Value) (h : H) (K : Value → H → Prop) : Prop := ∃ (u : U) (b o n c : Nat) (x : Int) (N : Nat), vs = [.slice (some ⟨b, o, none⟩) n c, .int .u64 x] ∧ 0 ≤ x ∧ x ≤ 18446744073709551615 ∧ n ≤ 20 ∧ Byt h b N ∧ o + n ≤ N ∧ u b = 0 ∧
  ∀ h', Step (fun i => i = b) u h u h' → Byt h' b N → K (.tuple #[]) h'
set_option maxHeartbeats 1000000 in
theorem cvBase10_ok {vs : List Value} {h : H} {K : Value → H → Prop} {KP : List PanicEntry → H → Prop} (hC : C_b10 vs h K) : HCX Try.prog 75 vs h K KP := by
  obtain ⟨u, b, o, n, c, x, N, rfl, hx0, hx1, hn, hB, hN, hu, hK⟩ := hC
  refine cvBase10_H (fun _ _ _ _ _ => False) (fun _ _ _ _ _ h => h.elim) _ _ ?_
  simp (disch := first | omega | (simp only [e_ssz, e_psz, e_hszs, List.length_cons, List.length_nil]; try omega; done)) only [↓reduceIte, go_sem, cvBase10_S, cvBase10_E]
  obtain ⟨I, hI⟩ : ∃ I : Nat → Env → H → Prop, I = fun m σ h' => σ 0 = .slice (some ⟨b, o, none⟩) n c ∧ σ 4 = .int .i64 m ∧ m ≤ n ∧ (∃ y : Int, σ 1 = .int .u64 y ∧ 0 ≤ y ∧ y ≤ 18446744073709551615) ∧ Step (fun i => i = b) u h u h' ∧ Byt h' b N := ⟨_, rfl⟩
  refine wpS_loop I (fun m => m) n (by rw [hI]; exact ⟨by simp [upd], by simp [upd], Nat.le_refl _, ⟨x, by simp [upd], hx0, hx1⟩, .refl _ _ _, hB⟩) ?_
  intro m σ h' hy
  rw [hI] at hy
  obtain ⟨e0, e4, hm, ⟨y, e1, hy0, hy1⟩, st, hB'⟩ := hy
  have hz := hB'.1
  have hf := hB'.2.1
  have fin : ∀ (σ' : Env) (h2 : H) (m' : Nat) (y' : Int), σ' 0 = .slice (some ⟨b, o, none⟩) n c → σ' 4 = .int .i64 m' → σ' 1 = .int .u64 y' → 0 ≤ y' → y' ≤ 18446744073709551615 → m' < m → Step (fun i => i = b) u h u h2 → Byt h2 b N → ∃ z, I z σ' h2 ∧ z < m := fun σ' h2 m' y' q0 q4 q1 q2 q3 q5 q6 q7 => ⟨m', by rw [hI]; exact ⟨q0, q4, by omega, ⟨y', q1, q2, q3⟩, q6, q7⟩, q5⟩
  by_cases h8 : 8 ≤ m
  · simp (disch := first | omega | (simp only [e_ssz, e_psz, e_hszs, List.length_cons, List.length_nil]; try omega; done)) only [↓reduceIte, go_sem, cvBase10_L1, e0, e1, e4, tmodn, tdivn, wr32u, wr64u, hz, hf, l0_len]
    refine ⟨fun _ => ?_, fun hn => absurd (show (8 : Int) ≤ m by omega) hn⟩
    repeat (refine And.intro (by omega) ?_)
    refine fin _ _ (m - 8) (y / 100000000) ?_ ?_ ?_ (by omega) (by omega) (by omega) ?_ ?_
    · simp [upd, e0]
    · simp [upd]; omega
    · simp [upd]
    · repeat (refine Step.setR ?_ (.inr rfl) (by rw [hu]; exact Nat.zero_le _))
      exact st
    · repeat (refine Byt.set ?_)
      exact hB'
  · obtain ⟨w, hw⟩ : ∃ w, IntKind.u32.wrap y = w := ⟨_, rfl⟩
    have hw0 : 0 ≤ w ∧ w ≤ 4294967295 := by
      have : IntKind.u32.wrap y = y % 4294967296 := rfl
      omega
    simp (disch := first | omega | (simp only [e_ssz, e_psz, e_hszs, List.length_cons, List.length_nil]; try omega; done)) only [↓reduceIte, go_sem, cvBase10_L1, e0, e1, e4, eq_false (show ¬ (8 : Int) ≤ m by omega), hw, tmodn, tdivn, wr32u, hz, hf, l0_len]
    repeat' (first | (refine And.intro (by omega) ?_) | (refine And.intro (fun _ => ?_) (fun _ => ?_)))
    all_goals (refine hK _ ?_ ?_)
    all_goals (repeat (first | refine Step.setR ?_ (.inr rfl) (by rw [hu]; exact Nat.zero_le _) | with_reducible refine Byt.set ?_ | with_reducible refine Byt.setw ?_))
    all_goals first | exact st | exact hB'
end Go.Proofs.Ytdaldilmjhdpaaa
