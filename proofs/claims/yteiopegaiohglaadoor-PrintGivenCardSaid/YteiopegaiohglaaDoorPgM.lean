/- The maker of facts: word, name, constant. -/
import Derived.Test.YteiopegaiohglaaDoorPgD
namespace Edict
abbrev Byts := List UInt8
def okC (b : UInt8) : UInt8 := if (97 ≤ b ∧ b ≤ 122) ∨ (65 ≤ b ∧ b ≤ 90) ∨ (48 ≤ b ∧ b ≤ 57) then b else 95
def wrdF (g : UInt8) (s : Byts) : Byts := match s with
  | [] => [g]
  | c :: l => (g + c % 26) :: (l.take 63).map okC
def nameM (s : Byts) : Byts := if wrdF 97 s = [110, 111, 116] then [110, 111, 116, 101] else wrdF 97 s
def conM (k n : Int) (s : Byts) : Const := if k % 3 = 0 then (1, n, []) else if k % 3 = 1 then (2, 0, nameM s) else (3, 0, s.take 255)
theorem okC_ok (b : UInt8) : okB (okC b).toNat = true := by
  unfold okC
  split
  · rename_i h
    simp only [UInt8.le_iff_toNat_le] at h
    have e1 : (97 : UInt8).toNat = 97 := rfl
    have e2 : (122 : UInt8).toNat = 122 := rfl
    have e3 : (65 : UInt8).toNat = 65 := rfl
    have e4 : (90 : UInt8).toNat = 90 := rfl
    have e5 : (48 : UInt8).toNat = 48 := rfl
    have e6 : (57 : UInt8).toNat = 57 := rfl
    rw [e1, e2, e3, e4, e5, e6] at h
    generalize b.toNat = n at h ⊢
    unfold okB smallB bigB
    simp; omega
  · rfl
theorem beg_at {g : UInt8} (hg : g.toNat ≤ 200) (c : UInt8) : (g + c % 26).toNat = g.toNat + c.toNat % 26 := by
  rw [UInt8.toNat_add, UInt8.toNat_mod]
  have : (26 : UInt8).toNat = 26 := rfl
  rw [this]
  omega
theorem wrd_word {f : Int → Bool} {g : UInt8} (hg : g.toNat ≤ 200) (hf : ∀ n : Nat, g.toNat ≤ n → n ≤ g.toNat + 25 → f n = true) (s : Byts) : wordB f (wrdF g s) = true := by
  match s with
  | [] => simp [wrdF, wordB, hf g.toNat (Nat.le_refl _) (by omega)]
  | c :: l =>
    have h1 : f ((g + c % 26).toNat : Nat) = true := by rw [beg_at hg]; exact hf _ (by omega) (by omega)
    have h2 : ((l.take 63).map okC).all (fun c => okB c.toNat) = true := by
      rw [List.all_eq_true]
      intro x hx
      obtain ⟨y, -, rfl⟩ := List.mem_map.1 hx
      exact okC_ok y
    have h3 : ((l.take 63).map okC).length ≤ 63 := by rw [List.length_map, List.length_take]; omega
    unfold wrdF wordB
    simp only [h1, h2, Bool.and_true, decide_eq_true_eq]
    omega
theorem small97 : ∀ n : Nat, (97 : UInt8).toNat ≤ n → n ≤ (97 : UInt8).toNat + 25 → smallB n = true := fun n h1 h2 => by
  have e : (97 : UInt8).toNat = 97 := rfl
  rw [e] at h1 h2
  unfold smallB; simp; omega
theorem nameM_ok (s : Byts) : nameB (nameM s) = true := by
  unfold nameM
  split
  · rfl
  · rename_i h
    unfold nameB
    rw [decide_eq_false h, wrd_word (by decide) small97]; rfl
theorem conM_ok (k n : Int) (s : Byts) : validB (conM k n s) = true := by
  unfold conM
  split
  · rfl
  · split
    · show (decide ((0 : Int) = 0) && nameB (nameM s)) = true
      rw [nameM_ok]; rfl
    · show (decide ((0 : Int) = 0) && decide ((s.take 255).length ≤ 255)) = true
      have h1 : (s.take 255).length ≤ 255 := by rw [List.length_take]; omega
      rw [decide_eq_true h1]; rfl
def facM (f : Fact) : Fact := (nameM f.1, (f.2.take 8).map fun c => conM c.1 c.2.1 c.2.2)
theorem facM_ok {f : Fact} (h : ∀ c ∈ f.2, -9223372036854775808 ≤ c.2.1 ∧ c.2.1 ≤ 9223372036854775807) : OkF (facM f) := by
  refine ⟨nameM_ok _, by show ((f.2.take 8).map _).length ≤ 8; rw [List.length_map, List.length_take]; omega, fun c hc => ?_⟩
  obtain ⟨x, hx, rfl⟩ := List.mem_map.1 hc
  have hr := h x (List.mem_of_mem_take hx)
  refine ⟨conM_ok _ _ _, ?_⟩
  unfold conM
  split
  · exact hr
  · split <;> simp
end Edict
namespace Go.Ev
open Go Rep
theorem Step.own {S : Nat → Prop} {u u1 u2 : U} {h h1 h2 : H} (s : Step S0 u h u1 h1) (t : Step S u1 h1 u2 h2) (hn : ∀ j, S j → h.size ≤ j) : Step S0 u h u2 h2 := s.trans t (fun j hj e => absurd (hn j e) (by omega))
theorem ownY_one (u : U) (h : H) (e : TypeId) (b : UInt8) : OwnY h.size (ub u h.size 1) (h.push (.cells #[.int .u8 b.toNat] e)) (.slice (some ⟨h.size, 0, none⟩) 1 1) [b] := by
  refine .inr ⟨h.size, 1, rfl, Nat.le_refl _, by decide, Nat.le_refl _, by simp, by rw [e_hszpe rfl]; rfl, e_hfrpe rfl, by simp [ub]; rfl, fun i x hx => ?_⟩
  match i, hx with
  | 0, hx =>
    cases hx
    show hvs _ _ (0 * 1) 1 = [.int .u8 b.toNat]
    rw [hvs_1, e_hvpe rfl]; rfl
  | i + 1, hx => simp at hx
theorem effS_b2sY {G : Ctr} {d : Option Nat} {st : Stab} {r : List St} {K : Env → H → Prop} {KP : List PanicEntry → H → Prop} {σ : Env} {h : H} {k : Nat} {u : U} {v : Value} {l : List UInt8} (ho : OwnY k u h v l)
    (hK : stabP st σ h h ∧ wpSts G r K KP (updo σ d (str l)) h) : effS G .b2s d st r K KP [v] σ h := by
  rcases ho with ⟨rfl, rfl⟩ | ⟨b, c, rfl, h1, h2, h3, h4, h5, h6, h7, h8⟩
  · exact hK
  · refine ⟨by rw [h5, Nat.zero_add]; rw [szY]; omega, l, ?_, hK⟩
    apply List.ext_getElem?
    intro i
    by_cases hi : i < l.length
    · have hx := h8 i l[i] (by simp [hi])
      rw [szY, Nat.mul_one, hvs_1] at hx
      have hx : [Go.Ev.hv h b i] = [.int .u8 (l[i]).toNat] := hx
      simp only [hvs, List.getElem?_map, List.getElem?_range hi, Option.map_some, Nat.zero_add]
      simp only [List.cons.injEq, and_true] at hx
      rw [hx]; simp [hi, byteV]
    · simp [hvs, List.getElem?_eq_none (show l.length ≤ i by omega)]; omega
theorem effS_app1o {α : Type} [Rep α] {G : Ctr} {e e' : TypeId} {bytes s : Nat} {z cs : List Value} {k p : Nat} {u : U} {h : H} {v : Value} {l : List α} {x : α} {d : Option Nat} {st : Stab} {r : List St} {K : Env → H → Prop} {KP : List PanicEntry → H → Prop} {σ : Env}
    (hp : p = h.size) (ho : Own k u h v l) (hx : rep u h x cs) (hs : s = sz α) (hz : z.length = sz α) (hk : k ≤ h.size) (hb : (l.length + 1) * bytes ≤ 140737488355328)
    (hK : ∀ a n c u' h', Own k u' h' (.slice a n c) (l ++ [x]) → Step (OwnB v) u h u' h' → (∀ b, OwnB (.slice a n c) b → OwnB v b ∨ h.size ≤ b) → stabP st σ (h.push (.cells cs.toArray e')) h' ∧ wpSts G r K KP (updo σ d (.slice a n c)) h') :
    effS G (.app e s bytes z) d st r K KP [v, .slice (some ⟨p, 0, none⟩) 1 1] σ (h.push (.cells cs.toArray e')) := by
  subst hp
  exact own_app1 (G := G) (KP := KP) (K := fun v' h' => stabP st σ (h.push (.cells cs.toArray e')) h' ∧ wpSts G r K KP (updo σ d v') h') ho hx hs hz hk hb (fun v' u' h' o' s' b' => by
    obtain ⟨a, c, rfl, -, -⟩ := o'.sl
    exact hK _ _ _ _ _ o' s' b')
theorem effS_app1y : type_of% (@effS_app1o UInt8 repB8) := @effS_app1o UInt8 repB8
theorem wrap8 {n : Int} (h1 : 0 ≤ n) (h2 : n ≤ 255) : IntKind.u8.wrap n = n := by
  have e : n % 256 = n := Int.emod_eq_of_lt h1 (by omega)
  unfold IntKind.wrap
  simp [IntKind.bits, IntKind.signed, e]
end Go.Ev
namespace Go.Proofs.YteiopegaiohglaaDoor
open Go Go.Ev Edict
def C_poMod (vs : List Value) (h : H) (K : Value → H → Prop) : Prop := ∃ a n : Int, vs = [.int .i64 a, .int .i64 n] ∧ 0 < n ∧ n ≤ 1000000 ∧ K (.int .i64 (a % n)) h
theorem poMod_ok {vs : List Value} {h : H} {K : Value → H → Prop} {KP : List PanicEntry → H → Prop} (hC : C_poMod vs h K) : HCX Tryd.prog 27 vs h K KP := by
  obtain ⟨a, n, rfl, h0, h1, hK⟩ := hC
  refine poMod_H (fun _ _ _ _ _ => False) (fun _ _ _ _ _ h => h.elim) _ _ ?_
  have h2 := Int.tmod_lt_of_pos a h0
  have hn := Int.natAbs_of_nonneg (Int.le_of_lt h0)
  have h3 : -n < a.tmod n := by
    have := Int.lt_tmod_of_pos a h0
    exact this
  have he := Int.tmod_add_mul_tdiv a n
  by_cases hneg : a.tmod n < 0
  · have e : a % n = a.tmod n + n := by
      have h4 : a % n = (a.tmod n + n * a.tdiv n) % n := by rw [he]
      rw [h4, Int.add_mul_emod_self_left, ← Int.add_emod_right, Int.emod_eq_of_lt (by omega) (by omega)]
    rw [e] at hK
    simp (disch := first | omega | (simp only [e_ssz, e_psz, e_hszs, List.length_cons, List.length_nil]; try omega; done)) only [↓reduceIte, go_sem, poMod_S, poMod_E, eq_true hneg]
    exact ⟨by omega, hK⟩
  · have e : a % n = a.tmod n := by
      have h4 : a % n = (a.tmod n + n * a.tdiv n) % n := by rw [he]
      rw [h4, Int.add_mul_emod_self_left, Int.emod_eq_of_lt (by omega) (by omega)]
    rw [e] at hK
    simp (disch := first | omega | (simp only [e_ssz, e_psz, e_hszs, List.length_cons, List.length_nil]; try omega; done)) only [↓reduceIte, go_sem, poMod_S, poMod_E, eq_false hneg]
    exact ⟨by omega, hK⟩
def C_poWord (vs : List Value) (h : H) (K : Value → H → Prop) : Prop := ∃ (u : U) (s : List UInt8) (g : UInt8), vs = [str s, .int .u8 g.toNat] ∧ g.toNat ≤ 200 ∧ s.length ≤ 9223372036854775807 ∧ ∀ u' h', Step S0 u h u' h' → K (str (wrdF g s)) h'
theorem poWord_ok {vs : List Value} {h : H} {K : Value → H → Prop} {KP : List PanicEntry → H → Prop} (hC : C_poWord vs h K) : HCX Tryd.prog 26 vs h K KP := by
  obtain ⟨u, s, g, rfl, hg, hsl, hK⟩ := hC
  refine poWord_H (fun _ _ _ _ _ => False) (fun _ _ _ _ _ h => h.elim) _ _ ?_
  cases s with
  | nil =>
    have s1 := Step.push S0 u h #[.int .u8 g.toNat] 5 1
    have o1 := ownY_one u h 5 g
    simp (disch := first | omega | (simp only [e_ssz, e_psz, e_hszs, List.length_cons, List.length_nil]; try omega; done)) only [↓reduceIte, go_sem, poWord_S, poWord_E]
    refine effS_b2sY o1 ⟨by simp (disch := first | omega | (simp only [e_ssz, e_psz, e_hszs, List.length_cons, List.length_nil]; try omega; done)) only [go_sem], ?_⟩
    simp (disch := first | omega | (simp only [e_ssz, e_psz, e_hszs, List.length_cons, List.length_nil]; try omega; done)) only [↓reduceIte, go_sem]
    exact hK _ _ s1
  | cons c l =>
    have hne := eq_false (List.cons_ne_nil c l)
    have hb : IntKind.u8.wrap ((g.toNat : Int) + (c.toNat : Int).tmod 26) = ((g + c % 26).toNat : Nat) := by
      rw [beg_at hg]
      have e : (c.toNat : Int).tmod 26 = ((c.toNat % 26 : Nat) : Int) := rfl
      rw [e, wrap8 (by omega) (by omega)]; omega
    obtain ⟨w0, hw0⟩ : ∃ w0, w0 = g + c % 26 := ⟨_, rfl⟩
    rw [← hw0] at hb
    have hwrd : wrdF g (c :: l) = w0 :: (l.take 63).map okC := by rw [hw0]; rfl
    rw [hwrd] at hK
    have s1 := Step.push S0 u h #[.int .u8 w0.toNat] 5 1
    have o1 := ownY_one u h 5 w0
    simp (disch := first | omega | (simp only [e_ssz, e_psz, e_hszs, List.length_cons, List.length_nil]; try omega; done)) only [↓reduceIte, go_sem, poWord_S, poWord_E, hne, hb]
    refine ⟨by omega, ?_⟩
    obtain ⟨I, hI⟩ : ∃ I : Nat → Env → H → Prop, I = fun i σ h' => σ 0 = str (c :: l) ∧ σ 6 = .int .i64 ((i + 1 : Nat) : Int) ∧ i ≤ l.length ∧ i ≤ 63 ∧
      ∃ (u' : U) (vA : Value), σ 5 = vA ∧ Step S0 u h u' h' ∧ OwnY h.size u' h' vA (w0 :: (l.take i).map okC) := ⟨_, rfl⟩
    refine wpS_loop I (fun i => l.length - i) 0 (by rw [hI]; exact ⟨by simp [upd], by simp [upd], Nat.zero_le _, Nat.zero_le _, _, .slice (some ⟨h.size, 0, none⟩) 1 1, by simp [upd], s1, o1⟩) ?_
    intro i σ h' hy
    rw [hI] at hy
    obtain ⟨e0, e6, hi, hi63, u', vA, e5, st, oA⟩ := hy
    have hz := st.ge.sz
    by_cases hlt : i < l.length ∧ i < 63
    · obtain ⟨b, hs⟩ : ∃ b, l[i]? = some b := ⟨l[i]'hlt.1, by simp [hlt.1]⟩
      have hgd : (c :: l).getD (i + 1) 0 = b := by rw [List.getD_eq_getElem?_getD, List.getElem?_cons_succ, hs]; rfl
      have htk : (l.take (i + 1)).map okC = (l.take i).map okC ++ [okC b] := by rw [List.take_add_one, hs]; simp
      have hlk : (w0 :: (l.take i).map okC).length ≤ 64 := by rw [List.length_cons, List.length_map, List.length_take]; omega
      have h256 := b.toNat_lt
      have next : ∀ (x : UInt8) (σ' : Env) (u3 : U) (h3 : H) (a3 : Option Addr) (n3 c3 : Nat), x = okC b → OwnY h.size u3 h3 (.slice a3 n3 c3) ((w0 :: (l.take i).map okC) ++ [x]) → Step (OwnB vA) u' h' u3 h3 → σ' 0 = str (c :: l) → σ' 5 = .slice a3 n3 c3 → σ' 6 = .int .i64 ((i + 1 + 1 : Nat) : Int) → ∃ y, I y σ' h3 ∧ l.length - y < l.length - i := fun x σ' u3 h3 a3 n3 c3 hx o3 s3 g0 g5 g6 => by
        refine ⟨i + 1, ?_, by omega⟩
        rw [hI]
        refine ⟨g0, g6, hlt.1, hlt.2, u3, .slice a3 n3 c3, g5, st.own s3 (fun j hj => @Own.ge UInt8 repB8 _ _ _ _ _ oA _ hj), ?_⟩
        rw [htk, ← hx]; exact o3
      by_cases hc0 : b.toNat ≤ 47
      · have hx : (95 : UInt8) = okC b := by
          unfold okC
          simp only [UInt8.le_iff_toNat_le]
          rw [if_neg]
          have e1 : (97 : UInt8).toNat = 97 := rfl
          have e2 : (122 : UInt8).toNat = 122 := rfl
          have e3 : (65 : UInt8).toNat = 65 := rfl
          have e4 : (90 : UInt8).toNat = 90 := rfl
          have e5 : (48 : UInt8).toNat = 48 := rfl
          have e6 : (57 : UInt8).toNat = 57 := rfl
          rw [e1, e2, e3, e4, e5, e6]; omega
        have sT := Step.push0 S0 u' h' #[.int .u8 95] 5
        simp (disch := first | omega | (simp only [e_ssz, e_psz, e_hszs, List.length_cons, List.length_nil]; try omega; done)) only [↓reduceIte, go_sem, poWord_L1, e0, e5, e6, eq_true (show ((i + 1 : Nat) : Int) < 64 by omega), hgd, eq_true (show i + 1 < l.length + 1 by omega), eq_false (show ¬ (97 : Int) ≤ (b.toNat : Nat) by omega), eq_false (show ¬ (65 : Int) ≤ (b.toNat : Nat) by omega), eq_false (show ¬ (48 : Int) ≤ (b.toNat : Nat) by omega), eq_true (show ((b.toNat : Nat) : Int) ≤ 122 by omega), eq_true (show ((b.toNat : Nat) : Int) ≤ 90 by omega), eq_true (show ((b.toNat : Nat) : Int) ≤ 57 by omega)]
        refine effS_app1y rfl oA (x := 95) (cs := [.int .u8 95]) rfl rfl rfl (by omega) (by rw [Nat.mul_one]; omega) fun a3 n3 c3 u3 h3 o3 s3 b3' => ⟨by first | exact trivial | simp (disch := first | omega | (simp only [e_ssz, e_psz, e_hszs, List.length_cons, List.length_nil]; try omega; done)) only [go_sem], ?_⟩
        simp (disch := first | omega | (simp only [e_ssz, e_psz, e_hszs, List.length_cons, List.length_nil]; try omega; done)) only [↓reduceIte, go_sem, e6]
        exact next _ _ u3 h3 a3 n3 c3 hx o3 s3 (by simp [upd, e0]) (by simp [upd]) (by simp [upd])
      by_cases hc1 : 48 ≤ b.toNat ∧ b.toNat ≤ 57
      · have hx : (b : UInt8) = okC b := by
          unfold okC
          simp only [UInt8.le_iff_toNat_le]
          rw [if_pos]
          have e1 : (97 : UInt8).toNat = 97 := rfl
          have e2 : (122 : UInt8).toNat = 122 := rfl
          have e3 : (65 : UInt8).toNat = 65 := rfl
          have e4 : (90 : UInt8).toNat = 90 := rfl
          have e5 : (48 : UInt8).toNat = 48 := rfl
          have e6 : (57 : UInt8).toNat = 57 := rfl
          rw [e1, e2, e3, e4, e5, e6]; omega
        have sT := Step.push0 S0 u' h' #[.int .u8 b.toNat] 5
        simp (disch := first | omega | (simp only [e_ssz, e_psz, e_hszs, List.length_cons, List.length_nil]; try omega; done)) only [↓reduceIte, go_sem, poWord_L1, e0, e5, e6, eq_true (show ((i + 1 : Nat) : Int) < 64 by omega), hgd, eq_true (show i + 1 < l.length + 1 by omega), eq_false (show ¬ (97 : Int) ≤ (b.toNat : Nat) by omega), eq_false (show ¬ (65 : Int) ≤ (b.toNat : Nat) by omega), eq_true (show (48 : Int) ≤ (b.toNat : Nat) by omega), eq_true (show ((b.toNat : Nat) : Int) ≤ 122 by omega), eq_true (show ((b.toNat : Nat) : Int) ≤ 90 by omega), eq_true (show ((b.toNat : Nat) : Int) ≤ 57 by omega)]
        refine effS_app1y rfl oA (x := b) (cs := [.int .u8 b.toNat]) rfl rfl rfl (by omega) (by rw [Nat.mul_one]; omega) fun a3 n3 c3 u3 h3 o3 s3 b3' => ⟨by first | exact trivial | simp (disch := first | omega | (simp only [e_ssz, e_psz, e_hszs, List.length_cons, List.length_nil]; try omega; done)) only [go_sem], ?_⟩
        simp (disch := first | omega | (simp only [e_ssz, e_psz, e_hszs, List.length_cons, List.length_nil]; try omega; done)) only [↓reduceIte, go_sem, e6]
        exact next _ _ u3 h3 a3 n3 c3 hx o3 s3 (by simp [upd, e0]) (by simp [upd]) (by simp [upd])
      by_cases hc2 : 58 ≤ b.toNat ∧ b.toNat ≤ 64
      · have hx : (95 : UInt8) = okC b := by
          unfold okC
          simp only [UInt8.le_iff_toNat_le]
          rw [if_neg]
          have e1 : (97 : UInt8).toNat = 97 := rfl
          have e2 : (122 : UInt8).toNat = 122 := rfl
          have e3 : (65 : UInt8).toNat = 65 := rfl
          have e4 : (90 : UInt8).toNat = 90 := rfl
          have e5 : (48 : UInt8).toNat = 48 := rfl
          have e6 : (57 : UInt8).toNat = 57 := rfl
          rw [e1, e2, e3, e4, e5, e6]; omega
        have sT := Step.push0 S0 u' h' #[.int .u8 95] 5
        simp (disch := first | omega | (simp only [e_ssz, e_psz, e_hszs, List.length_cons, List.length_nil]; try omega; done)) only [↓reduceIte, go_sem, poWord_L1, e0, e5, e6, eq_true (show ((i + 1 : Nat) : Int) < 64 by omega), hgd, eq_true (show i + 1 < l.length + 1 by omega), eq_false (show ¬ (97 : Int) ≤ (b.toNat : Nat) by omega), eq_false (show ¬ (65 : Int) ≤ (b.toNat : Nat) by omega), eq_true (show (48 : Int) ≤ (b.toNat : Nat) by omega), eq_true (show ((b.toNat : Nat) : Int) ≤ 122 by omega), eq_true (show ((b.toNat : Nat) : Int) ≤ 90 by omega), eq_false (show ¬ ((b.toNat : Nat) : Int) ≤ 57 by omega)]
        refine effS_app1y rfl oA (x := 95) (cs := [.int .u8 95]) rfl rfl rfl (by omega) (by rw [Nat.mul_one]; omega) fun a3 n3 c3 u3 h3 o3 s3 b3' => ⟨by first | exact trivial | simp (disch := first | omega | (simp only [e_ssz, e_psz, e_hszs, List.length_cons, List.length_nil]; try omega; done)) only [go_sem], ?_⟩
        simp (disch := first | omega | (simp only [e_ssz, e_psz, e_hszs, List.length_cons, List.length_nil]; try omega; done)) only [↓reduceIte, go_sem, e6]
        exact next _ _ u3 h3 a3 n3 c3 hx o3 s3 (by simp [upd, e0]) (by simp [upd]) (by simp [upd])
      by_cases hc3 : 65 ≤ b.toNat ∧ b.toNat ≤ 90
      · have hx : (b : UInt8) = okC b := by
          unfold okC
          simp only [UInt8.le_iff_toNat_le]
          rw [if_pos]
          have e1 : (97 : UInt8).toNat = 97 := rfl
          have e2 : (122 : UInt8).toNat = 122 := rfl
          have e3 : (65 : UInt8).toNat = 65 := rfl
          have e4 : (90 : UInt8).toNat = 90 := rfl
          have e5 : (48 : UInt8).toNat = 48 := rfl
          have e6 : (57 : UInt8).toNat = 57 := rfl
          rw [e1, e2, e3, e4, e5, e6]; omega
        have sT := Step.push0 S0 u' h' #[.int .u8 b.toNat] 5
        simp (disch := first | omega | (simp only [e_ssz, e_psz, e_hszs, List.length_cons, List.length_nil]; try omega; done)) only [↓reduceIte, go_sem, poWord_L1, e0, e5, e6, eq_true (show ((i + 1 : Nat) : Int) < 64 by omega), hgd, eq_true (show i + 1 < l.length + 1 by omega), eq_false (show ¬ (97 : Int) ≤ (b.toNat : Nat) by omega), eq_true (show (65 : Int) ≤ (b.toNat : Nat) by omega), eq_true (show (48 : Int) ≤ (b.toNat : Nat) by omega), eq_true (show ((b.toNat : Nat) : Int) ≤ 122 by omega), eq_true (show ((b.toNat : Nat) : Int) ≤ 90 by omega), eq_false (show ¬ ((b.toNat : Nat) : Int) ≤ 57 by omega)]
        refine effS_app1y rfl oA (x := b) (cs := [.int .u8 b.toNat]) rfl rfl rfl (by omega) (by rw [Nat.mul_one]; omega) fun a3 n3 c3 u3 h3 o3 s3 b3' => ⟨by first | exact trivial | simp (disch := first | omega | (simp only [e_ssz, e_psz, e_hszs, List.length_cons, List.length_nil]; try omega; done)) only [go_sem], ?_⟩
        simp (disch := first | omega | (simp only [e_ssz, e_psz, e_hszs, List.length_cons, List.length_nil]; try omega; done)) only [↓reduceIte, go_sem, e6]
        exact next _ _ u3 h3 a3 n3 c3 hx o3 s3 (by simp [upd, e0]) (by simp [upd]) (by simp [upd])
      by_cases hc4 : 91 ≤ b.toNat ∧ b.toNat ≤ 96
      · have hx : (95 : UInt8) = okC b := by
          unfold okC
          simp only [UInt8.le_iff_toNat_le]
          rw [if_neg]
          have e1 : (97 : UInt8).toNat = 97 := rfl
          have e2 : (122 : UInt8).toNat = 122 := rfl
          have e3 : (65 : UInt8).toNat = 65 := rfl
          have e4 : (90 : UInt8).toNat = 90 := rfl
          have e5 : (48 : UInt8).toNat = 48 := rfl
          have e6 : (57 : UInt8).toNat = 57 := rfl
          rw [e1, e2, e3, e4, e5, e6]; omega
        have sT := Step.push0 S0 u' h' #[.int .u8 95] 5
        simp (disch := first | omega | (simp only [e_ssz, e_psz, e_hszs, List.length_cons, List.length_nil]; try omega; done)) only [↓reduceIte, go_sem, poWord_L1, e0, e5, e6, eq_true (show ((i + 1 : Nat) : Int) < 64 by omega), hgd, eq_true (show i + 1 < l.length + 1 by omega), eq_false (show ¬ (97 : Int) ≤ (b.toNat : Nat) by omega), eq_true (show (65 : Int) ≤ (b.toNat : Nat) by omega), eq_true (show (48 : Int) ≤ (b.toNat : Nat) by omega), eq_true (show ((b.toNat : Nat) : Int) ≤ 122 by omega), eq_false (show ¬ ((b.toNat : Nat) : Int) ≤ 90 by omega), eq_false (show ¬ ((b.toNat : Nat) : Int) ≤ 57 by omega)]
        refine effS_app1y rfl oA (x := 95) (cs := [.int .u8 95]) rfl rfl rfl (by omega) (by rw [Nat.mul_one]; omega) fun a3 n3 c3 u3 h3 o3 s3 b3' => ⟨by first | exact trivial | simp (disch := first | omega | (simp only [e_ssz, e_psz, e_hszs, List.length_cons, List.length_nil]; try omega; done)) only [go_sem], ?_⟩
        simp (disch := first | omega | (simp only [e_ssz, e_psz, e_hszs, List.length_cons, List.length_nil]; try omega; done)) only [↓reduceIte, go_sem, e6]
        exact next _ _ u3 h3 a3 n3 c3 hx o3 s3 (by simp [upd, e0]) (by simp [upd]) (by simp [upd])
      by_cases hc5 : 97 ≤ b.toNat ∧ b.toNat ≤ 122
      · have hx : (b : UInt8) = okC b := by
          unfold okC
          simp only [UInt8.le_iff_toNat_le]
          rw [if_pos]
          have e1 : (97 : UInt8).toNat = 97 := rfl
          have e2 : (122 : UInt8).toNat = 122 := rfl
          have e3 : (65 : UInt8).toNat = 65 := rfl
          have e4 : (90 : UInt8).toNat = 90 := rfl
          have e5 : (48 : UInt8).toNat = 48 := rfl
          have e6 : (57 : UInt8).toNat = 57 := rfl
          rw [e1, e2, e3, e4, e5, e6]; omega
        have sT := Step.push0 S0 u' h' #[.int .u8 b.toNat] 5
        simp (disch := first | omega | (simp only [e_ssz, e_psz, e_hszs, List.length_cons, List.length_nil]; try omega; done)) only [↓reduceIte, go_sem, poWord_L1, e0, e5, e6, eq_true (show ((i + 1 : Nat) : Int) < 64 by omega), hgd, eq_true (show i + 1 < l.length + 1 by omega), eq_true (show (97 : Int) ≤ (b.toNat : Nat) by omega), eq_true (show (65 : Int) ≤ (b.toNat : Nat) by omega), eq_true (show (48 : Int) ≤ (b.toNat : Nat) by omega), eq_true (show ((b.toNat : Nat) : Int) ≤ 122 by omega), eq_false (show ¬ ((b.toNat : Nat) : Int) ≤ 90 by omega), eq_false (show ¬ ((b.toNat : Nat) : Int) ≤ 57 by omega)]
        refine effS_app1y rfl oA (x := b) (cs := [.int .u8 b.toNat]) rfl rfl rfl (by omega) (by rw [Nat.mul_one]; omega) fun a3 n3 c3 u3 h3 o3 s3 b3' => ⟨by first | exact trivial | simp (disch := first | omega | (simp only [e_ssz, e_psz, e_hszs, List.length_cons, List.length_nil]; try omega; done)) only [go_sem], ?_⟩
        simp (disch := first | omega | (simp only [e_ssz, e_psz, e_hszs, List.length_cons, List.length_nil]; try omega; done)) only [↓reduceIte, go_sem, e6]
        exact next _ _ u3 h3 a3 n3 c3 hx o3 s3 (by simp [upd, e0]) (by simp [upd]) (by simp [upd])
      by_cases hc6 : 123 ≤ b.toNat
      · have hx : (95 : UInt8) = okC b := by
          unfold okC
          simp only [UInt8.le_iff_toNat_le]
          rw [if_neg]
          have e1 : (97 : UInt8).toNat = 97 := rfl
          have e2 : (122 : UInt8).toNat = 122 := rfl
          have e3 : (65 : UInt8).toNat = 65 := rfl
          have e4 : (90 : UInt8).toNat = 90 := rfl
          have e5 : (48 : UInt8).toNat = 48 := rfl
          have e6 : (57 : UInt8).toNat = 57 := rfl
          rw [e1, e2, e3, e4, e5, e6]; omega
        have sT := Step.push0 S0 u' h' #[.int .u8 95] 5
        simp (disch := first | omega | (simp only [e_ssz, e_psz, e_hszs, List.length_cons, List.length_nil]; try omega; done)) only [↓reduceIte, go_sem, poWord_L1, e0, e5, e6, eq_true (show ((i + 1 : Nat) : Int) < 64 by omega), hgd, eq_true (show i + 1 < l.length + 1 by omega), eq_true (show (97 : Int) ≤ (b.toNat : Nat) by omega), eq_true (show (65 : Int) ≤ (b.toNat : Nat) by omega), eq_true (show (48 : Int) ≤ (b.toNat : Nat) by omega), eq_false (show ¬ ((b.toNat : Nat) : Int) ≤ 122 by omega), eq_false (show ¬ ((b.toNat : Nat) : Int) ≤ 90 by omega), eq_false (show ¬ ((b.toNat : Nat) : Int) ≤ 57 by omega)]
        refine effS_app1y rfl oA (x := 95) (cs := [.int .u8 95]) rfl rfl rfl (by omega) (by rw [Nat.mul_one]; omega) fun a3 n3 c3 u3 h3 o3 s3 b3' => ⟨by first | exact trivial | simp (disch := first | omega | (simp only [e_ssz, e_psz, e_hszs, List.length_cons, List.length_nil]; try omega; done)) only [go_sem], ?_⟩
        simp (disch := first | omega | (simp only [e_ssz, e_psz, e_hszs, List.length_cons, List.length_nil]; try omega; done)) only [↓reduceIte, go_sem, e6]
        exact next _ _ u3 h3 a3 n3 c3 hx o3 s3 (by simp [upd, e0]) (by simp [upd]) (by simp [upd])
      omega
    · have hst : ¬ ((i : Int) + 1 < (l.length + 1 : Nat) ∧ (i : Int) + 1 < 64) := fun q => hlt ⟨by omega, by omega⟩
      have hfull : l.take i = l.take 63 := by
        by_cases hll : i < l.length
        · rw [show i = 63 by omega]
        · rw [List.take_of_length_le (by omega), List.take_of_length_le (by omega)]
      rw [hfull] at oA
      by_cases hll : i < l.length
      · simp (disch := first | omega | (simp only [e_ssz, e_psz, e_hszs, List.length_cons, List.length_nil]; try omega; done)) only [↓reduceIte, go_sem, poWord_L1, e0, e5, e6, eq_true (show i + 1 < l.length + 1 by omega), eq_false (show ¬ ((i + 1 : Nat) : Int) < 64 by omega)]
        refine effS_b2sY oA ⟨by first | exact trivial | simp (disch := first | omega | (simp only [e_ssz, e_psz, e_hszs, List.length_cons, List.length_nil]; try omega; done)) only [go_sem], ?_⟩
        simp (disch := first | omega | (simp only [e_ssz, e_psz, e_hszs, List.length_cons, List.length_nil]; try omega; done)) only [↓reduceIte, go_sem]
        exact hK _ _ st
      · simp (disch := first | omega | (simp only [e_ssz, e_psz, e_hszs, List.length_cons, List.length_nil]; try omega; done)) only [↓reduceIte, go_sem, poWord_L1, e0, e5, e6, eq_false (show ¬ i + 1 < l.length + 1 by omega)]
        refine effS_b2sY oA ⟨by first | exact trivial | simp (disch := first | omega | (simp only [e_ssz, e_psz, e_hszs, List.length_cons, List.length_nil]; try omega; done)) only [go_sem], ?_⟩
        simp (disch := first | omega | (simp only [e_ssz, e_psz, e_hszs, List.length_cons, List.length_nil]; try omega; done)) only [↓reduceIte, go_sem]
        exact hK _ _ st
def C_poStr (f : List UInt8 → List UInt8) (vs : List Value) (h : H) (K : Value → H → Prop) : Prop := ∃ (u : U) (s : List UInt8), vs = [str s] ∧ s.length ≤ 9223372036854775807 ∧ ∀ u' h', Step S0 u h u' h' → K (str (f s)) h'
def G_poName : Ctr := fun f vs h K _ => f = 26 ∧ C_poWord vs h K
theorem G_poName_ok : GOk Tryd.prog G_poName := by
  rintro f vs h K KP ⟨rfl, hC⟩; exact poWord_ok hC
theorem poName_ok {vs : List Value} {h : H} {K : Value → H → Prop} {KP : List PanicEntry → H → Prop} (hC : C_poStr nameM vs h K) : HCX Tryd.prog 12 vs h K KP := by
  obtain ⟨u, s, rfl, hs, hK⟩ := hC
  refine poName_H G_poName G_poName_ok _ ?_
  simp (disch := first | omega | (simp only [e_ssz, e_psz, e_hszs, List.length_cons, List.length_nil]; try omega; done)) only [↓reduceIte, go_sem, poName_S, poName_E]
  refine effS_call ⟨rfl, u, s, 97, rfl, by decide, hs, fun u1 h1 s1 => ⟨by simp (disch := first | omega | (simp only [e_ssz, e_psz, e_hszs, List.length_cons, List.length_nil]; try omega; done)) only [go_sem], ?_⟩⟩
  have h2 := hK u1 h1 s1
  unfold nameM at h2
  by_cases hn : wrdF 97 s = [110, 111, 116]
  · rw [if_pos hn] at h2
    simp (disch := first | omega | (simp only [e_ssz, e_psz, e_hszs, List.length_cons, List.length_nil]; try omega; done)) only [↓reduceIte, go_sem, eq_true hn]
    exact h2
  · rw [if_neg hn] at h2
    simp (disch := first | omega | (simp only [e_ssz, e_psz, e_hszs, List.length_cons, List.length_nil]; try omega; done)) only [↓reduceIte, go_sem, eq_false hn]
    exact h2
def C_poCon (vs : List Value) (h : H) (K : Value → H → Prop) : Prop := ∃ (u : U) (k n : Int) (s : List UInt8), vs = [.int .i64 k, .int .i64 n, str s] ∧ s.length ≤ 9223372036854775807 ∧ ∀ u' h', Step S0 u h u' h' → K (.agg #[.int .i64 (conM k n s).1, .int .i64 (conM k n s).2.1, str (conM k n s).2.2]) h'
def G_poCon : Ctr := fun f vs h K _ => (f = 27 ∧ C_poMod vs h K) ∨ (f = 12 ∧ C_poStr nameM vs h K)
theorem G_poCon_ok : GOk Tryd.prog G_poCon := by
  rintro f vs h K KP (⟨rfl, hC⟩ | ⟨rfl, hC⟩)
  · exact poMod_ok hC
  · exact poName_ok hC
theorem poCon_ok {vs : List Value} {h : H} {K : Value → H → Prop} {KP : List PanicEntry → H → Prop} (hC : C_poCon vs h K) : HCX Tryd.prog 13 vs h K KP := by
  obtain ⟨u, k, n, s, rfl, hs, hK⟩ := hC
  refine poCon_H G_poCon G_poCon_ok _ _ _ ?_
  have s1 := Step.push0 S0 u h #[.int .i64 0, .int .i64 0, str []] 46
  have B := Blk.new (u := u) (h := h) [.int .i64 0, .int .i64 0, str []] 46
  simp (disch := first | omega | (simp only [e_ssz, e_psz, e_hszs, List.length_cons, List.length_nil]; try omega; done)) only [↓reduceIte, go_sem, poCon_S, poCon_E]
  refine effS_call (.inl ⟨rfl, k, 3, rfl, by decide, by decide, ⟨by simp (disch := first | omega | (simp only [e_ssz, e_psz, e_hszs, List.length_cons, List.length_nil]; try omega; done)) only [go_sem], ?_⟩⟩)
  obtain ⟨p, hp⟩ : ∃ p, p = h.size := ⟨_, rfl⟩
  generalize ub u h.size 0 = u1 at s1 B
  obtain ⟨h1, hh1⟩ : ∃ h1, h1 = h.push (.cells #[.int .i64 0, .int .i64 0, str []] 46) := ⟨_, rfl⟩
  have B : Blk u1 h1 p [.int .i64 0, .int .i64 0, str []] := by rw [hh1, hp]; exact B
  rw [← hh1] at s1
  rw [← hh1, ← hp]
  have b := B.1
  unfold conM at hK
  by_cases h3 : k % 3 = 0
  · simp only [if_pos h3] at hK
    have E := B.sets (l := [.int .i64 1, .int .i64 n, str []]) rfl
    have sw : Step (fun j => j = p) u1 h1 u1 (hsets h1 p 0 [.int .i64 1, .int .i64 n, str []]) := Step.sets u1 h1 _ rfl (by rw [B.2.2.2.1]; exact Nat.le_refl _) (by rw [B.2.1]; exact Nat.le_refl _)
    simp (disch := first | omega | (simp only [e_ssz, e_psz, e_hszs, List.length_cons, List.length_nil]; try omega; done)) only [↓reduceIte, go_sem, eq_true h3, B.2.1, B.2.2.1, hsets_hsz, E.at]
    exact hK _ _ (s1.own sw (fun j e => by have e : j = p := e; omega))
  · simp only [if_neg h3] at hK
    by_cases h4 : k % 3 = 1
    · simp only [if_pos h4] at hK
      simp (disch := first | omega | (simp only [e_ssz, e_psz, e_hszs, List.length_cons, List.length_nil]; try omega; done)) only [↓reduceIte, go_sem, eq_false h3, eq_true h4]
      refine effS_call (.inr ⟨rfl, u1, s, rfl, hs, fun u2 h2 s2 => ⟨by simp (disch := first | omega | (simp only [e_ssz, e_psz, e_hszs, List.length_cons, List.length_nil]; try omega; done)) only [go_sem], ?_⟩⟩)
      have B2 := B.step0 s2
      have b2 := B2.1
      have E := B2.sets (l := [.int .i64 2, .int .i64 0, str (nameM s)]) rfl
      have sw : Step (fun j => j = p) u2 h2 u2 (hsets h2 p 0 [.int .i64 2, .int .i64 0, str (nameM s)]) := Step.sets u2 h2 _ rfl (by rw [B2.2.2.2.1]; exact Nat.le_refl _) (by rw [B2.2.1]; exact Nat.le_refl _)
      simp (disch := first | omega | (simp only [e_ssz, e_psz, e_hszs, List.length_cons, List.length_nil]; try omega; done)) only [↓reduceIte, go_sem, B2.2.1, B2.2.2.1, hsets_hsz, E.at]
      exact hK _ _ ((s1.trans0 s2).own sw (fun j e => by have e : j = p := e; omega))
    · simp only [if_neg h4] at hK
      have hmin : (if (s.length : Int) < 255 then (s.length : Int) else 255).toNat = min 255 s.length := by split <;> omega
      have htk : s.take (min 255 s.length) = s.take 255 := by
        by_cases hh : s.length < 255
        · rw [show min 255 s.length = s.length by omega, List.take_length, List.take_of_length_le (by omega)]
        · rw [show min 255 s.length = 255 by omega]
      have E := B.sets (l := [.int .i64 3, .int .i64 0, str (s.take 255)]) rfl
      have sw : Step (fun j => j = p) u1 h1 u1 (hsets h1 p 0 [.int .i64 3, .int .i64 0, str (s.take 255)]) := Step.sets u1 h1 _ rfl (by rw [B.2.2.2.1]; exact Nat.le_refl _) (by rw [B.2.1]; exact Nat.le_refl _)
      simp (disch := first | omega | (simp only [e_ssz, e_psz, e_hszs, List.length_cons, List.length_nil]; try omega; done)) only [↓reduceIte, go_sem, eq_false h3, eq_false h4, B.2.1, B.2.2.1, hsets_hsz]
      rw [hmin, htk]
      refine ⟨by split <;> omega, by split <;> omega, ?_⟩
      simp (disch := first | omega | (simp only [e_ssz, e_psz, e_hszs, List.length_cons, List.length_nil]; try omega; done)) only [go_sem, E.at]
      exact hK _ _ (s1.own sw (fun j e => by have e : j = p := e; omega))
end Go.Proofs.YteiopegaiohglaaDoor
