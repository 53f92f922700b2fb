/- What lex's escape and text compute. -/
import Derived.Test.YtlenjlidahnklaaDoorLexU
namespace Go.Ev
open Go Rep
instance repByte : Rep UInt8 where
  sz := 1
  rep _ _ s cs := cs = [.int .u8 s.toNat]
  wf _ := True
  bulk _ := 1
  szp := Nat.one_pos
  len h := by subst h; rfl
  ok h := by subst h; rfl
  mono _ h := h
  pos _ := Nat.le_refl _
theorem rep_byte {u : U} {h : H} {n : UInt8} {cs : List Value} : rep u h n cs = (cs = [.int .u8 n.toNat]) := rfl
theorem sz_byte : sz UInt8 = 1 := rfl
theorem effS_b2s {G : Ctr} {d : Option Nat} {st : Stab} {r : List St} {K : Env → H → Prop} {KP : List PanicEntry → H → Prop} {σ : Env} {h : H} {k : Nat} {u : U} {v : Value} {l : List UInt8} (ho : Own k u h v l)
    (hK : stabP st σ h h ∧ wpSts G r K KP (updo σ d (str l)) h) : effS G .b2s d st r K KP [v] σ h := by
  rcases ho with ⟨rfl, rfl⟩ | ⟨b, c, rfl, h1, h2, h3, h4, h5, h6, h7, h8⟩
  · exact hK
  · refine ⟨by rw [h5, Nat.zero_add]; rw [sz_byte]; omega, l, ?_, hK⟩
    apply List.ext_getElem?
    intro i
    by_cases hi : i < l.length
    · have hx := h8 i l[i] (by simp [hi])
      rw [sz_byte, Nat.mul_one, rep_byte, hvs_1] at hx
      simp only [hvs, List.getElem?_map, List.getElem?_range hi, Option.map_some, Nat.zero_add]
      simp only [List.cons.injEq, and_true] at hx
      rw [hx]; simp [hi, byteV]
    · simp [hvs, List.getElem?_eq_none (show l.length ≤ i by omega)]; omega
theorem e_bits {h : H} {op : BinOp} {k k' : IntKind} {a b : Int} : v2 (.bits op) (.int k a) (.int k' b) h = .int k (bitsI op k a b) := (rfl)
theorem e_bitsc {h : H} {op : BinOp} {k k' : IntKind} {a b : Int} : s2 (.bits op) (.int k a) (.int k' b) h = (if isShift op then 0 ≤ b else k = k') := by simp [s2, isInt, ti, tk]
end Go.Ev
namespace Go.Proofs.YtlenjlidahnklaaDoor
open Go Go.Ev Edict
theorem nib : ∀ a < 16, ∀ b < 16, IntKind.u8.wrap (bitsI .or .i64 (bitsI .shl .i64 ((a : Nat) : Int) 4) ((b : Nat) : Int)) = ((a * 16 + b : Nat) : Int) := by decide +kernel
theorem hexV_lt {c a : Nat} (h : hexV c = some a) : a < 16 := by
  unfold hexV dgB at h
  split at h
  · rename_i h1; simp at h1; cases h; omega
  · split at h
    · cases h; omega
    · split at h <;> cases h; omega
def C_esc (vs : List Value) (h : H) (K : Value → H → Prop) : Prop := ∃ (B : Nat) (s : List UInt8) (k : Nat), vs = [.pointer (some ⟨B, 0, none⟩)] ∧ hsz h B = 2 ∧ hv h B 0 = str s ∧ hv h B 1 = .int .i64 k ∧ k ≤ s.length ∧ s.length ≤ 65536 ∧ K (.tuple #[.int .u8 (escF s k).1, .int .i64 (escF s k).2]) h
def G_lxEscape : Ctr := fun f vs h K _ => (f = 51 ∧ C_peek vs h K) ∨ (f = 66 ∧ C_hex vs h K)
theorem G_lxEscape_ok : GOk Tryd.prog G_lxEscape := by
  rintro f vs h K KP (⟨rfl, hC⟩ | ⟨rfl, hC⟩)
  · exact lxPeek_ok hC
  · exact lxHex_ok hC
theorem lxEscape_ok {vs : List Value} {h : H} {K : Value → H → Prop} {KP : List PanicEntry → H → Prop} (hC : C_esc vs h K) : HCX Tryd.prog 62 vs h K KP := by
  obtain ⟨B, s, k, rfl, hz, h0, h1, hk, hl, hK⟩ := hC
  refine lxEscape_H G_lxEscape G_lxEscape_ok _ ?_
  simp (disch := first | omega | (simp only [e_ssz, e_psz, e_hszs, List.length_cons, List.length_nil]; try omega; done)) only [↓reduceIte, go_sem, lxEscape_S, lxEscape_E]
  refine effS_call (.inl ⟨rfl, B, s, k, 1, rfl, hz, h0, h1, hk, hl, by omega, ⟨by simp (disch := first | omega | (simp only [e_ssz, e_psz, e_hszs, List.length_cons, List.length_nil]; try omega; done)) only [go_sem], ?_⟩⟩)
  unfold escF at hK
  obtain ⟨c, hc⟩ : ∃ c, c = bat s (k + 1) := ⟨_, rfl⟩
  rw [← hc] at hK ⊢
  by_cases q1 : c = 34
  · rw [if_pos q1] at hK
    simp (disch := first | omega | (simp only [e_ssz, e_psz, e_hszs, List.length_cons, List.length_nil]; try omega; done)) only [↓reduceIte, go_sem, eq_true (show (c : Int) = 34 by omega)]
    exact hK
  rw [if_neg q1] at hK
  by_cases q2 : c = 92
  · rw [if_pos q2] at hK
    simp (disch := first | omega | (simp only [e_ssz, e_psz, e_hszs, List.length_cons, List.length_nil]; try omega; done)) only [↓reduceIte, go_sem, eq_false (show ¬ (c : Int) = 34 by omega), eq_true (show (c : Int) = 92 by omega)]
    exact hK
  rw [if_neg q2] at hK
  by_cases q3 : c = 110
  · rw [if_pos q3] at hK
    simp (disch := first | omega | (simp only [e_ssz, e_psz, e_hszs, List.length_cons, List.length_nil]; try omega; done)) only [↓reduceIte, go_sem, eq_false (show ¬ (c : Int) = 34 by omega), eq_false (show ¬ (c : Int) = 92 by omega), eq_true (show (c : Int) = 110 by omega)]
    exact hK
  rw [if_neg q3] at hK
  by_cases q4 : c = 116
  · rw [if_pos q4] at hK
    simp (disch := first | omega | (simp only [e_ssz, e_psz, e_hszs, List.length_cons, List.length_nil]; try omega; done)) only [↓reduceIte, go_sem, eq_false (show ¬ (c : Int) = 34 by omega), eq_false (show ¬ (c : Int) = 92 by omega), eq_false (show ¬ (c : Int) = 110 by omega), eq_true (show (c : Int) = 116 by omega)]
    exact hK
  rw [if_neg q4] at hK
  by_cases q5 : c = 114
  · rw [if_pos q5] at hK
    simp (disch := first | omega | (simp only [e_ssz, e_psz, e_hszs, List.length_cons, List.length_nil]; try omega; done)) only [↓reduceIte, go_sem, eq_false (show ¬ (c : Int) = 34 by omega), eq_false (show ¬ (c : Int) = 92 by omega), eq_false (show ¬ (c : Int) = 110 by omega), eq_false (show ¬ (c : Int) = 116 by omega), eq_true (show (c : Int) = 114 by omega)]
    exact hK
  rw [if_neg q5] at hK
  by_cases q6 : c = 120
  · rw [if_pos q6] at hK
    simp (disch := first | omega | (simp only [e_ssz, e_psz, e_hszs, List.length_cons, List.length_nil]; try omega; done)) only [↓reduceIte, go_sem, eq_false (show ¬ (c : Int) = 34 by omega), eq_false (show ¬ (c : Int) = 92 by omega), eq_false (show ¬ (c : Int) = 110 by omega), eq_false (show ¬ (c : Int) = 116 by omega), eq_false (show ¬ (c : Int) = 114 by omega), eq_true (show (c : Int) = 120 by omega)]
    refine effS_call (.inl ⟨rfl, B, s, k, 2, rfl, hz, h0, h1, hk, hl, by omega, ⟨by simp (disch := first | omega | (simp only [e_ssz, e_psz, e_hszs, List.length_cons, List.length_nil]; try omega; done)) only [go_sem], ?_⟩⟩)
    simp (disch := first | omega | (simp only [e_ssz, e_psz, e_hszs, List.length_cons, List.length_nil]; try omega; done)) only [↓reduceIte, go_sem]
    refine effS_call (.inr ⟨rfl, _, rfl, bat_lt _ _, ⟨by simp (disch := first | omega | (simp only [e_ssz, e_psz, e_hszs, List.length_cons, List.length_nil]; try omega; done)) only [go_sem], ?_⟩⟩)
    simp (disch := first | omega | (simp only [e_ssz, e_psz, e_hszs, List.length_cons, List.length_nil]; try omega; done)) only [↓reduceIte, go_sem]
    refine effS_call (.inl ⟨rfl, B, s, k, 3, rfl, hz, h0, h1, hk, hl, by omega, ⟨by simp (disch := first | omega | (simp only [e_ssz, e_psz, e_hszs, List.length_cons, List.length_nil]; try omega; done)) only [go_sem], ?_⟩⟩)
    simp (disch := first | omega | (simp only [e_ssz, e_psz, e_hszs, List.length_cons, List.length_nil]; try omega; done)) only [↓reduceIte, go_sem]
    refine effS_call (.inr ⟨rfl, _, rfl, bat_lt _ _, ⟨by simp (disch := first | omega | (simp only [e_ssz, e_psz, e_hszs, List.length_cons, List.length_nil]; try omega; done)) only [go_sem], ?_⟩⟩)
    unfold hexI
    cases ha : hexV (bat s (k + 2)) with
    | none =>
      rw [ha] at hK
      simp only at hK
      simp (disch := first | omega | (simp only [e_ssz, e_psz, e_hszs, List.length_cons, List.length_nil]; try omega; done)) only [↓reduceIte, go_sem]
      exact hK
    | some a =>
      cases hb : hexV (bat s (k + 3)) with
      | none =>
        rw [ha, hb] at hK
        simp only at hK
        simp (disch := first | omega | (simp only [e_ssz, e_psz, e_hszs, List.length_cons, List.length_nil]; try omega; done)) only [↓reduceIte, go_sem]
        exact hK
      | some b =>
        rw [ha, hb] at hK
        simp only at hK
        have hn := nib a (hexV_lt ha) b (hexV_lt hb)
        simp (disch := first | omega | (simp only [e_ssz, e_psz, e_hszs, List.length_cons, List.length_nil]; try omega; done)) only [↓reduceIte, go_sem, e_bits, e_bitsc, isShift, hn]
        exact hK
  · rw [if_neg q6] at hK
    simp (disch := first | omega | (simp only [e_ssz, e_psz, e_hszs, List.length_cons, List.length_nil]; try omega; done)) only [↓reduceIte, go_sem, eq_false (show ¬ (c : Int) = 34 by omega), eq_false (show ¬ (c : Int) = 92 by omega), eq_false (show ¬ (c : Int) = 110 by omega), eq_false (show ¬ (c : Int) = 116 by omega), eq_false (show ¬ (c : Int) = 114 by omega), eq_false (show ¬ (c : Int) = 120 by omega)]
    exact hK
def G_lxText : Ctr := fun f vs h K _ => (f = 62 ∧ C_esc vs h K) ∨ (f = 49 ∧ C_fault vs h K)
theorem G_lxText_ok : GOk Tryd.prog G_lxText := by
  rintro f vs h K KP (⟨rfl, hC⟩ | ⟨rfl, hC⟩)
  · exact lxEscape_ok hC
  · exact lxFault_ok hC
theorem txt_bad {s : List UInt8} {o i : Nat} {acc : List UInt8} (h : ¬ (i < s.length ∧ 32 ≤ bat s i)) : txtF s o i acc = .bad 11 o := by rw [txtF, if_neg h]
theorem txt_end {s : List UInt8} {o i : Nat} {acc : List UInt8} (h : i < s.length) (hc : bat s i = 34) : txtF s o i acc = .ok (4, acc, 0, 0, o, (i + 1 : Nat)) := by rw [txtF, if_pos ⟨h, by omega⟩, if_pos hc]
theorem txt_esc {s : List UInt8} {o i : Nat} {acc : List UInt8} (h : i < s.length) (hc : bat s i = 92) : txtF s o i acc = if (escF s i).2 = 0 then .bad 12 i else if acc.length = 255 then .bad 15 o else txtF s o (i + (escF s i).2) (acc ++ [UInt8.ofNat (escF s i).1]) := by
  rw [txtF, if_pos ⟨h, by omega⟩, if_neg (by omega), if_pos hc]
theorem txt_on {s : List UInt8} {o i : Nat} {acc : List UInt8} (h : i < s.length) (h32 : 32 ≤ bat s i) (h34 : bat s i ≠ 34) (h92 : bat s i ≠ 92) : txtF s o i acc = if acc.length = 255 then .bad 15 o else txtF s o (i + 1) (acc ++ [UInt8.ofNat (bat s i)]) := by
  rw [txtF, if_pos ⟨h, h32⟩, if_neg h34, if_neg h92]
theorem byte_back {n : Nat} (h : n < 256) : (UInt8.ofNat n).toNat = n := by simpa using h
theorem lxText_ok {vs : List Value} {h : H} {K : Value → H → Prop} {KP : List PanicEntry → H → Prop} (hC : C_tok noG (fun s k => txtF s k (k + 1) []) (fun s k => k < s.length) vs h K) : HCX Tryd.prog 55 vs h K KP := by
  obtain ⟨u, B, s, k, rfl, hB, hk, hl, hlt, -, hK⟩ := hC
  have hK : ∀ u' h', Step (fun i => i = B) u h u' h' → (∀ t, txtF s k (k + 1) [] = .ok t → Rdr u' h' B s t.2.2.2.2.2.toNat) → K (resV (txtF s k (k + 1) [])) h' := hK
  have hB1 := hB.1
  refine lxText_H G_lxText G_lxText_ok _ ?_
  have hst : Step (fun i => i = B) u h u (hset h B 1 (.int .i64 ((k : Int) + 1))) := Step.set u h _ rfl (by rw [hB.2.2.2.1]; exact Nat.zero_le _)
  have hB' : Rdr u (hset h B 1 (.int .i64 ((k : Int) + 1))) B s (k + 1) := hB.set (i := 1) (v := .int .i64 ((k : Int) + 1)) (by simp)
  have hsz : (hset h B 1 (.int .i64 ((k : Int) + 1))).size = h.size := by rw [e_ssz]
  have sp1 := (hst.pushR (c := tok0.toArray) (t := 80)).pushR (c := (fltE 0 0).toArray) (t := 27)
  have b1 := (hB'.pushR (c := tok0.toArray) (t := 80)).pushR (c := (fltE 0 0).toArray) (t := 27)
  have T1 := (Blk.new (u := u) (h := hset h B 1 (.int .i64 ((k : Int) + 1))) tok0 80).pushR (c := (fltE 0 0).toArray) (t := 27)
  have F1 := Blk.new (u := ub u (hset h B 1 (.int .i64 ((k : Int) + 1))).size 0) (h := (hset h B 1 (.int .i64 ((k : Int) + 1))).push (.cells tok0.toArray 80)) (fltE 0 0) 27
  simp only [e_psz, hsz] at sp1 b1 T1 F1
  simp (disch := first | omega | (simp only [e_ssz, e_psz, e_hszs, List.length_cons, List.length_nil]; try omega; done)) only [↓reduceIte, go_sem, lxText_S, lxText_E, hB.at, hB.2.1, hB.2.2.1]
  obtain ⟨I, hI⟩ : ∃ I : Nat × List UInt8 → Env → H → Prop, I = fun x σ h' => σ 0 = .pointer (some ⟨B, 0, none⟩) ∧ σ 2 = .pointer (some ⟨h.size, 0, none⟩) ∧ σ 3 = .pointer (some ⟨h.size + 1, 0, none⟩) ∧ σ 4 = .int .i64 k ∧ k < x.1 ∧ x.1 ≤ s.length ∧ x.2.length ≤ 255 ∧ txtF s k x.1 x.2 = txtF s k (k + 1) [] ∧
      ∃ u', Step (fun i => i = B) u h u' h' ∧ Rdr u' h' B s x.1 ∧ Blk u' h' h.size tok0 ∧ Blk u' h' (h.size + 1) (fltE 0 0) ∧ Own (h.size + 2) u' h' (σ 5) x.2 := ⟨_, rfl⟩
  refine wpS_loop I (fun x => s.length - x.1) (k + 1, []) (by
    rw [hI]
    exact ⟨by simp [upd], by simp [upd], by simp [upd], by simp [upd], by simp, by simp only; omega, by simp, rfl, _, sp1, b1, T1, F1, by simpa [upd] using Own.nil _ _ _⟩) ?_
  clear sp1 b1 T1 F1 hB' hst
  rintro ⟨i, acc⟩ σ h1 hy
  rw [hI] at hy
  obtain ⟨e0, e2, e3, e4, hki, hi, hal, hF, u1, st, b, T, F, ho⟩ := hy
  simp only at hki hi hal hF b ho
  rw [← hF] at hK
  have hb1 := b.1; have hT1 := T.1; have hF1 := F.1
  obtain ⟨oa, oc, hoe, ho1, ho2⟩ := ho.sl
  by_cases h32 : i < s.length ∧ 32 ≤ bat s i
  · obtain ⟨hil, h32⟩ := h32
    by_cases h34 : bat s i = 34
    · rw [txt_end hil h34] at hK
      have hst2 := st.setR (o := 1) (v := .int .i64 ((i : Int) + 1)) (.inr rfl) (by rw [b.2.2.2.1]; exact Nat.zero_le _)
      have b2 : Rdr u1 (hset h1 B 1 (.int .i64 ((i : Int) + 1))) B s (i + 1) := b.set (i := 1) (v := .int .i64 ((i : Int) + 1)) (by simp)
      have ss := Step.set (S := fun i => i = B) u1 h1 (o := 1) (.int .i64 ((i : Int) + 1)) (b := B) rfl (by rw [b.2.2.2.1]; exact Nat.zero_le _)
      have T2 := T.step ss (by omega)
      have F2 := F.step ss (by omega)
      have o2 := ho.step ss (fun q hq hB => by have := ho.ge hq; omega)
      obtain ⟨r1, r2, r3, r4⟩ := res2 (la := [.int .i64 4, str acc, .int .i64 0, .int .i64 0, .int .i64 k, .int .i64 ((i + 1 : Nat))]) (lb := fltE 0 0) hst2 T2 F2 (by omega) (by omega) (by omega) rfl rfl
      have b3 := r4 B _ b2 (by omega) (by omega)
      simp only [fltE] at r1 r2 r3 b3
      have T22 := T2.2.1
      have F22 := F2.2.1
      simp only [tok0, fltE, List.length_cons, List.length_nil] at T22 F22
      simp (disch := first | omega | (simp only [e_ssz, e_psz, e_hszs, List.length_cons, List.length_nil]; try omega; done)) only [↓reduceIte, go_sem, lxText_L1, e0, b.at, b.2.1, b.2.2.1, eq_true hil, batf, eq_true (show (bat s i : Int) = 34 by omega), eq_false (show ¬ (bat s i : Int) < 32 by omega), eq_false (show ¬ (s.length : Int) ≤ (i : Int) by omega)]
      refine effS_b2s o2 ⟨by simp (disch := first | omega | (simp only [e_ssz, e_psz, e_hszs, List.length_cons, List.length_nil]; try omega; done)) only [↓reduceIte, go_sem, e0, b2.at, b2.2.1], ?_⟩
      have T21 := T2.1
      have F21 := F2.1
      simp (disch := first | omega | (simp only [e_ssz, e_psz, e_hszs, List.length_cons, List.length_nil]; try omega; done)) only [↓reduceIte, go_sem, e2, e3, e4, b2.at, T22, T2.2.2.1, F22, F2.2.2.1, hsets_hsz, hsets_hfr, r2.at, r3.at, r2.2.1, r3.2.1]
      exact hK _ _ r1 (fun t ht => by cases ht; exact b3)
    · by_cases h92 : bat s i = 92
      · rw [txt_esc hil h92] at hK
        simp (disch := first | omega | (simp only [e_ssz, e_psz, e_hszs, List.length_cons, List.length_nil]; try omega; done)) only [↓reduceIte, go_sem, lxText_L1, e0, b.at, b.2.1, batf, eq_true hil, eq_false (show ¬ (bat s i : Int) = 34 by omega), eq_true (show (bat s i : Int) = 92 by omega), eq_false (show ¬ (bat s i : Int) < 32 by omega), eq_false (show ¬ (s.length : Int) ≤ (i : Int) by omega)]
        refine effS_call (.inl ⟨rfl, B, s, i, rfl, b.2.1, b.at 0 (by simp), b.at 1 (by simp), hi, hl, ⟨by simp (disch := first | omega | (simp only [e_ssz, e_psz, e_hszs, List.length_cons, List.length_nil]; try omega; done)) only [go_sem], ?_⟩⟩)
        have hesc := esc_len s i
        have hc256 := esc_byte s i
        obtain ⟨⟨c, n⟩, hcn⟩ : ∃ x, x = escF s i := ⟨_, rfl⟩
        rw [← hcn] at hK hesc hc256 ⊢
        simp only at hK hesc hc256 ⊢
        by_cases hn0 : n = 0
        · rw [if_pos hn0] at hK
          simp (disch := first | omega | (simp only [e_ssz, e_psz, e_hszs, List.length_cons, List.length_nil]; try omega; done)) only [↓reduceIte, go_sem, e0, b.at, b.2.1, eq_true (show (n : Int) = 0 by omega)]
          refine effS_call (.inr ⟨rfl, u1, _, 12, i, rfl, fun u2 h2 s2 => ⟨by simp (disch := first | omega | (simp only [e_ssz, e_psz, e_hszs, List.length_cons, List.length_nil]; try omega; done)) only [go_sem], ?_⟩⟩)
          have T2 := T.step0 s2
          have F2 := F.step0 s2
          obtain ⟨r1, r2, r3, -⟩ := res2 (la := tok0) (lb := fltE 12 i) (st.trans0 s2) T2 F2 (by omega) (by omega) (by omega) rfl rfl
          have T21 := T2.1
          have F21 := F2.1
          simp only [tok0, fltE] at r1 r2 r3
          simp (disch := first | omega | (simp only [e_ssz, e_psz, e_hszs, List.length_cons, List.length_nil]; try omega; done)) only [↓reduceIte, go_sem, e2, e3, tok0, fltE, T2.2.1, T2.2.2.1, F2.2.1, F2.2.2.1, hsets_hsz, hsets_hfr, r2.at, r3.at, r2.2.1, r3.2.1]
          exact hK _ _ r1 (fun t ht => by cases ht)
        · rw [if_neg hn0] at hK
          by_cases h255 : acc.length = 255
          · rw [if_pos h255] at hK
            simp (disch := first | omega | (simp only [e_ssz, e_psz, e_hszs, List.length_cons, List.length_nil]; try omega; done)) only [↓reduceIte, go_sem, e0, e4, hoe, eq_false (show ¬ (n : Int) = 0 by omega), eq_true (show (acc.length : Int) = 255 by omega)]
            refine effS_call (.inr ⟨rfl, u1, _, 15, k, rfl, fun u2 h2 s2 => ⟨by simp (disch := first | omega | (simp only [e_ssz, e_psz, e_hszs, List.length_cons, List.length_nil]; try omega; done)) only [go_sem], ?_⟩⟩)
            have T2 := T.step0 s2
            have F2 := F.step0 s2
            obtain ⟨r1, r2, r3, -⟩ := res2 (la := tok0) (lb := fltE 15 k) (st.trans0 s2) T2 F2 (by omega) (by omega) (by omega) rfl rfl
            have T21 := T2.1
            have F21 := F2.1
            simp only [tok0, fltE] at r1 r2 r3
            simp (disch := first | omega | (simp only [e_ssz, e_psz, e_hszs, List.length_cons, List.length_nil]; try omega; done)) only [↓reduceIte, go_sem, e2, e3, tok0, fltE, T2.2.1, T2.2.2.1, F2.2.1, F2.2.2.1, hsets_hsz, hsets_hfr, r2.at, r3.at, r2.2.1, r3.2.1]
            exact hK _ _ r1 (fun t ht => by cases ht)
          · rw [if_neg h255] at hK
            have hnx : txtF s k i acc = txtF s k (i + n) (acc ++ [UInt8.ofNat c]) := by rw [txt_esc hil h92, ← hcn]; simp only; rw [if_neg hn0, if_neg h255]
            simp (disch := first | omega | (simp only [e_ssz, e_psz, e_hszs, List.length_cons, List.length_nil]; try omega; done)) only [↓reduceIte, go_sem, hoe, eq_false (show ¬ (n : Int) = 0 by omega), eq_false (show ¬ (acc.length : Int) = 255 by omega)]
            rw [← hoe]
            refine effS_app1 (k := h.size + 2) (x := UInt8.ofNat (c)) (cs := [.int .u8 (c : Nat)]) ho (by rw [rep_byte, byte_back hc256]) rfl rfl (by omega) (by omega) fun a n' k' u2 h2 ho2 s2 => ⟨by simp (disch := first | omega | (simp only [e_ssz, e_psz, e_hszs, List.length_cons, List.length_nil]; try omega; done)) only [go_sem], ?_⟩
            have hnb : ∀ q, OwnB (σ 5) q → h.size + 2 ≤ q := fun q hq => ho.ge hq
            have b2 := b.step s2 (fun hq => by have := hnb _ hq; omega)
            have T2 := T.step s2 (fun hq => by have := hnb _ hq; omega)
            have F2 := F.step s2 (fun hq => by have := hnb _ hq; omega)
            have b21 := b2.1
            have st2 := st.trans s2 (fun q hq hQ => by have := hnb _ hQ; omega)
            simp (disch := first | omega | (simp only [e_ssz, e_psz, e_hszs, List.length_cons, List.length_nil]; try omega; done)) only [↓reduceIte, go_sem, e0, b2.at, b2.2.1, b2.2.2.1]
            have ss := Step.set (S := fun i => i = B) u2 h2 (o := 1) (.int .i64 (((i + (n) : Nat) : Int))) (b := B) rfl (by rw [b2.2.2.2.1]; exact Nat.zero_le _)
            have st3 := st2.setR (o := 1) (v := .int .i64 (((i + (n) : Nat) : Int))) (.inr rfl) (by rw [b2.2.2.2.1]; exact Nat.zero_le _)
            have b3 : Rdr u2 (hset h2 B 1 (.int .i64 (((i + (n) : Nat) : Int)))) B s (i + (n)) := b2.set (i := 1) (by simp)
            have ei : ((i : Int) + (((n : Nat)) : Int)) = ((i + (n) : Nat) : Int) := by omega
            try rw [show ((i : Int) + 1) = ((i + 1 : Nat) : Int) by omega]
            try rw [ei]
            refine ⟨(i + (n), acc ++ [UInt8.ofNat (c)]), ?_, by simp only; omega⟩
            rw [hI]
            exact ⟨by simp [upd, e0], by simp [upd, e2], by simp [upd, e3], by simp [upd, e4], by simp only; omega, by simp only; omega, by simp; omega, hnx.symm.trans hF, u2, st3, b3, T2.step ss (by omega), F2.step ss (by omega), by simpa [upd] using ho2.step ss (fun q hq hQ => by have := ho2.ge hq; omega)⟩
      · rw [txt_on hil h32 h34 h92] at hK
        have hc256 := bat_lt s i
        by_cases h255 : acc.length = 255
        · rw [if_pos h255] at hK
          simp (disch := first | omega | (simp only [e_ssz, e_psz, e_hszs, List.length_cons, List.length_nil]; try omega; done)) only [↓reduceIte, go_sem, lxText_L1, e0, e4, hoe, b.at, b.2.1, batf, eq_true hil, eq_false (show ¬ (bat s i : Int) = 34 by omega), eq_false (show ¬ (bat s i : Int) = 92 by omega), eq_false (show ¬ (bat s i : Int) < 32 by omega), eq_false (show ¬ (s.length : Int) ≤ (i : Int) by omega), eq_true (show (acc.length : Int) = 255 by omega)]
          refine effS_call (.inr ⟨rfl, u1, _, 15, k, rfl, fun u2 h2 s2 => ⟨by simp (disch := first | omega | (simp only [e_ssz, e_psz, e_hszs, List.length_cons, List.length_nil]; try omega; done)) only [go_sem], ?_⟩⟩)
          have T2 := T.step0 s2
          have F2 := F.step0 s2
          obtain ⟨r1, r2, r3, -⟩ := res2 (la := tok0) (lb := fltE 15 k) (st.trans0 s2) T2 F2 (by omega) (by omega) (by omega) rfl rfl
          have T21 := T2.1
          have F21 := F2.1
          simp only [tok0, fltE] at r1 r2 r3
          simp (disch := first | omega | (simp only [e_ssz, e_psz, e_hszs, List.length_cons, List.length_nil]; try omega; done)) only [↓reduceIte, go_sem, e2, e3, tok0, fltE, T2.2.1, T2.2.2.1, F2.2.1, F2.2.2.1, hsets_hsz, hsets_hfr, r2.at, r3.at, r2.2.1, r3.2.1]
          exact hK _ _ r1 (fun t ht => by cases ht)
        · rw [if_neg h255] at hK
          have hnx : txtF s k i acc = txtF s k (i + 1) (acc ++ [UInt8.ofNat (bat s i)]) := by rw [txt_on hil h32 h34 h92, if_neg h255]
          simp (disch := first | omega | (simp only [e_ssz, e_psz, e_hszs, List.length_cons, List.length_nil]; try omega; done)) only [↓reduceIte, go_sem, lxText_L1, e0, hoe, b.at, b.2.1, batf, eq_true hil, eq_false (show ¬ (bat s i : Int) = 34 by omega), eq_false (show ¬ (bat s i : Int) = 92 by omega), eq_false (show ¬ (bat s i : Int) < 32 by omega), eq_false (show ¬ (s.length : Int) ≤ (i : Int) by omega), eq_false (show ¬ (acc.length : Int) = 255 by omega)]
          rw [← hoe]
          refine effS_app1 (k := h.size + 2) (x := UInt8.ofNat (bat s i)) (cs := [.int .u8 (bat s i : Nat)]) ho (by rw [rep_byte, byte_back hc256]) rfl rfl (by omega) (by omega) fun a n' k' u2 h2 ho2 s2 => ⟨by simp (disch := first | omega | (simp only [e_ssz, e_psz, e_hszs, List.length_cons, List.length_nil]; try omega; done)) only [go_sem], ?_⟩
          have hnb : ∀ q, OwnB (σ 5) q → h.size + 2 ≤ q := fun q hq => ho.ge hq
          have b2 := b.step s2 (fun hq => by have := hnb _ hq; omega)
          have T2 := T.step s2 (fun hq => by have := hnb _ hq; omega)
          have F2 := F.step s2 (fun hq => by have := hnb _ hq; omega)
          have b21 := b2.1
          have st2 := st.trans s2 (fun q hq hQ => by have := hnb _ hQ; omega)
          simp (disch := first | omega | (simp only [e_ssz, e_psz, e_hszs, List.length_cons, List.length_nil]; try omega; done)) only [↓reduceIte, go_sem, e0, b2.at, b2.2.1, b2.2.2.1]
          have ss := Step.set (S := fun i => i = B) u2 h2 (o := 1) (.int .i64 (((i + (1) : Nat) : Int))) (b := B) rfl (by rw [b2.2.2.2.1]; exact Nat.zero_le _)
          have st3 := st2.setR (o := 1) (v := .int .i64 (((i + (1) : Nat) : Int))) (.inr rfl) (by rw [b2.2.2.2.1]; exact Nat.zero_le _)
          have b3 : Rdr u2 (hset h2 B 1 (.int .i64 (((i + (1) : Nat) : Int)))) B s (i + (1)) := b2.set (i := 1) (by simp)
          have ei : ((i : Int) + (((1 : Nat)) : Int)) = ((i + (1) : Nat) : Int) := by omega
          try rw [show ((i : Int) + 1) = ((i + 1 : Nat) : Int) by omega]
          try rw [ei]
          refine ⟨(i + (1), acc ++ [UInt8.ofNat (bat s i)]), ?_, by simp only; omega⟩
          rw [hI]
          exact ⟨by simp [upd, e0], by simp [upd, e2], by simp [upd, e3], by simp [upd, e4], by simp only; omega, by simp only; omega, by simp; omega, hnx.symm.trans hF, u2, st3, b3, T2.step ss (by omega), F2.step ss (by omega), by simpa [upd] using ho2.step ss (fun q hq hQ => by have := ho2.ge hq; omega)⟩
  · rw [txt_bad h32] at hK
    by_cases hil : i < s.length
    · simp (disch := first | omega | (simp only [e_ssz, e_psz, e_hszs, List.length_cons, List.length_nil]; try omega; done)) only [↓reduceIte, go_sem, lxText_L1, e0, e4, b.at, b.2.1, batf, eq_true hil, eq_true (show (bat s i : Int) < 32 by omega), eq_false (show ¬ (s.length : Int) ≤ (i : Int) by omega)]
      refine effS_call (.inr ⟨rfl, u1, _, 11, k, rfl, fun u2 h2 s2 => ⟨by simp (disch := first | omega | (simp only [e_ssz, e_psz, e_hszs, List.length_cons, List.length_nil]; try omega; done)) only [go_sem], ?_⟩⟩)
      have T2 := T.step0 s2
      have F2 := F.step0 s2
      obtain ⟨r1, r2, r3, -⟩ := res2 (la := tok0) (lb := fltE 11 k) (st.trans0 s2) T2 F2 (by omega) (by omega) (by omega) rfl rfl
      have T21 := T2.1
      have F21 := F2.1
      simp only [tok0, fltE] at r1 r2 r3
      simp (disch := first | omega | (simp only [e_ssz, e_psz, e_hszs, List.length_cons, List.length_nil]; try omega; done)) only [↓reduceIte, go_sem, e2, e3, tok0, fltE, T2.2.1, T2.2.2.1, F2.2.1, F2.2.2.1, hsets_hsz, hsets_hfr, r2.at, r3.at, r2.2.1, r3.2.1]
      exact hK _ _ r1 (fun t ht => by cases ht)
    · simp (disch := first | omega | (simp only [e_ssz, e_psz, e_hszs, List.length_cons, List.length_nil]; try omega; done)) only [↓reduceIte, go_sem, lxText_L1, e0, e4, b.at, b.2.1, batf, eq_true (show (s.length : Int) ≤ (i : Int) by omega)]
      refine effS_call (.inr ⟨rfl, u1, _, 11, k, rfl, fun u2 h2 s2 => ⟨by simp (disch := first | omega | (simp only [e_ssz, e_psz, e_hszs, List.length_cons, List.length_nil]; try omega; done)) only [go_sem], ?_⟩⟩)
      have T2 := T.step0 s2
      have F2 := F.step0 s2
      obtain ⟨r1, r2, r3, -⟩ := res2 (la := tok0) (lb := fltE 11 k) (st.trans0 s2) T2 F2 (by omega) (by omega) (by omega) rfl rfl
      have T21 := T2.1
      have F21 := F2.1
      simp only [tok0, fltE] at r1 r2 r3
      simp (disch := first | omega | (simp only [e_ssz, e_psz, e_hszs, List.length_cons, List.length_nil]; try omega; done)) only [↓reduceIte, go_sem, e2, e3, tok0, fltE, T2.2.1, T2.2.2.1, F2.2.1, F2.2.2.1, hsets_hsz, hsets_hfr, r2.at, r3.at, r2.2.1, r3.2.1]
      exact hK _ _ r1 (fun t ht => by cases ht)
end Go.Proofs.YtlenjlidahnklaaDoor
