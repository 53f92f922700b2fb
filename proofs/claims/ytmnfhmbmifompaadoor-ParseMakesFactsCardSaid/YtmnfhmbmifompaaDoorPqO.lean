/- What the maker lays is read back. -/
import Derived.Test.YtmnfhmbmifompaaDoorPqN
namespace Edict
open Go
theorem sg_open : tokF [40] 0 = .ok (5, [], 0, 0, 0, 1) := by kernel_rfl
theorem sg_close : tokF [41] 0 = .ok (6, [], 0, 0, 0, 1) := by kernel_rfl
theorem sg_comma : tokF [44] 0 = .ok (7, [], 0, 0, 0, 1) := by kernel_rfl
theorem sg_dot : tokF [46] 0 = .ok (8, [], 0, 0, 0, 1) := by kernel_rfl
theorem sg_arrow : tokF [58, 45] 0 = .ok (9, [], 0, 0, 0, 2) := by kernel_rfl
theorem sg_not : tokF [110, 111, 116] 0 = .ok (10, [], 0, 0, 0, 3) := by kernel_rfl
section
variable {gs : List Int} {st : MS} {W : List Tok}
theorem put_ok {s : List UInt8} {c : Int} {v : List UInt8} {n p : Int} (h : Lays st.1 W) (hj : JoinOk st.1 s) (hs : tokF s 0 = .ok (c, v, n, p, 0, (s.length : Int))) (hc : c ≠ 0) :
    ∃ e, Lays (putS gs st s).1 (W ++ [(c, v, n, p, offS gs st, e)]) ∧ lastE 0 (W ++ [(c, v, n, p, offS gs st, e)]) = (putS gs st s).1.length ∧ lastB (putS gs st s).1 = lastB s :=
  ⟨_, lays_put h (gapK_ok gs st.2) (gapK_0 gs st.2) hj hs hc⟩
theorem put_sign {s : List UInt8} {c : Int} (h : Lays st.1 W) (h1 : wdB (bat s 0) = false) (h2 : bat s 0 ≠ 61) (hs : tokF s 0 = .ok (c, [], 0, 0, 0, (s.length : Int))) (hc : c ≠ 0) :
    ∃ tk, Lays (putS gs st s).1 (W ++ [tk]) ∧ tK tk = c ∧ lastB (putS gs st s).1 = lastB s := by
  obtain ⟨e, h1, -, h3⟩ := put_ok (gs := gs) h (join_sign h1 h2) hs hc
  exact ⟨_, h1, rfl, h3⟩
theorem mkTerm_ok {t : TT} (h : Lays st.1 W) (ht : OkI t.2) (hj : wdB (lastB st.1) = false) : ∃ tk, Lays (mkTerm gs t st).2.1 (W ++ [tk]) ∧ isT (tK tk) true = true ∧ (t.1 % 4 ≠ 3 → isT (tK tk) false = true) ∧ termD tk = (mkTerm gs t st).1 ∧ tO tk = offS gs st ∧
    (lastB (mkTerm gs t st).2.1 ≠ 60 ∧ lastB (mkTerm gs t st).2.1 ≠ 62) := by
  obtain ⟨c, v, n, h1, h2, h3, h4, h5, h6, h7, h8, h9⟩ := term_ok ht
  obtain ⟨e, k1, -, k3⟩ := put_ok (gs := gs) h (join_word hj h8) h1 h2
  refine ⟨_, k1, h3, h4, h5 _ _, rfl, ?_⟩
  show lastB (putS gs st (termS t)).1 ≠ 60 ∧ lastB (putS gs st (termS t)).1 ≠ 62
  rw [k3]; exact h7
theorem gnd_ok {gr : Bool} {t : TT} (h : OkI t.2) : OkI (gndT gr t).2 ∧ (gr = true → (gndT gr t).1 % 4 ≠ 3) := by
  unfold gndT
  cases gr with
  | true => simp only [if_true]; exact ⟨h, fun _ => by omega⟩
  | false => simp only [Bool.false_eq_true, if_false]; exact ⟨h, fun q => by cases q⟩
theorem getD_ok {l : List TT} (hl : ∀ t ∈ l, OkI t.2) (i : Nat) : OkI (l.getD i (0, 0)).2 := by
  rw [List.getD_eq_getElem?_getD]
  cases hx : l[i]? with
  | none => exact ⟨by decide, by decide⟩
  | some x => exact hl x (List.mem_of_getElem? hx)
theorem argsS_ok {gr : Bool} {l : List TT} (h : Lays st.1 W) (hl : ∀ t ∈ l, OkI t.2) : ∀ i, i ≤ 8 → ∃ U, Lays (argsS gs gr l st i).2.1 (W ++ U) ∧ (argsS gs gr l st i).1.length = i ∧ (i = 0 → U = []) ∧
    (0 < i → ∃ S U', U = S :: U' ∧ tK S = 5 ∧ ∀ bad m r, argsD bad (!gr) [] (U' ++ m :: r) = if tK m = 7 then argsD bad (!gr) (argsS gs gr l st i).1 r else if tK m = 6 then .ok ((argsS gs gr l st i).1, r) else .error (refuseD m))
  | 0, _ => ⟨[], by rw [List.append_nil]; exact h, rfl, fun _ => rfl, fun q => absurd q (Nat.lt_irrefl _)⟩
  | i + 1, hi => by
    obtain ⟨U, h1, h2, h3, h4⟩ := argsS_ok (gr := gr) h hl i (by omega)
    obtain ⟨g1, g2⟩ := gnd_ok (gr := gr) (getD_ok hl i)
    obtain ⟨S, s1, s2, s3⟩ : ∃ S, Lays (putS gs (argsS gs gr l st i).2 (if i = 0 then [40] else [44])).1 ((W ++ U) ++ [S]) ∧ tK S = (if i = 0 then 5 else 7) ∧ wdB (lastB (putS gs (argsS gs gr l st i).2 (if i = 0 then [40] else [44])).1) = false := by
      by_cases hi0 : i = 0
      · rw [if_pos hi0, if_pos hi0]
        obtain ⟨S, a, b, c⟩ := put_sign (gs := gs) h1 (s := [40]) rfl (by decide) sg_open (by decide)
        exact ⟨S, a, b, by rw [c]; rfl⟩
      · rw [if_neg hi0, if_neg hi0]
        obtain ⟨S, a, b, c⟩ := put_sign (gs := gs) h1 (s := [44]) rfl (by decide) sg_comma (by decide)
        exact ⟨S, a, b, by rw [c]; rfl⟩
    obtain ⟨tk, t1, t2, t3, t4, -, -⟩ := mkTerm_ok (gs := gs) s1 g1 s3
    have hT : isT (tK tk) (!gr) = true := by
      cases gr with
      | true => exact t3 (g2 rfl)
      | false => exact t2
    have hstep : ∀ bad m r (acc : List TermT), acc.length = i → argsD bad (!gr) acc (tk :: m :: r) = if tK m = 7 then argsD bad (!gr) (acc ++ [termD tk]) r else if tK m = 6 then .ok (acc ++ [termD tk], r) else .error (refuseD m) := by
      intro bad m r acc hacc
      rw [argsD_cons, if_neg (by omega), if_neg (by rw [hT]; simp)]
    refine ⟨U ++ [S, tk], ?_, ?_, fun q => absurd q (by omega), fun _ => ?_⟩
    · have : W ++ (U ++ [S, tk]) = (W ++ U ++ [S]) ++ [tk] := by simp
      rw [this]; exact t1
    · show ((argsS gs gr l st i).1 ++ [_]).length = i + 1
      rw [List.length_append, h2]; rfl
    · have hargs : (argsS gs gr l st (i + 1)).1 = (argsS gs gr l st i).1 ++ [termD tk] := by rw [t4]; rfl
      by_cases hi0 : i = 0
      · subst hi0
        rw [if_pos rfl] at s2
        refine ⟨S, [tk], by rw [h3 rfl]; rfl, s2, fun bad m r => ?_⟩
        rw [hargs]
        have : (argsS gs gr l st 0).1 = [] := rfl
        rw [this]
        exact hstep bad m r [] rfl
      · rw [if_neg hi0] at s2
        obtain ⟨S0, U', e1, e2, e3⟩ := h4 (by omega)
        refine ⟨S0, U' ++ [S, tk], by rw [e1]; rfl, e2, fun bad m r => ?_⟩
        rw [hargs, List.append_assoc]
        show argsD bad (!gr) [] (U' ++ S :: (tk :: m :: r)) = _
        rw [e3, if_pos s2]
        exact hstep bad m r _ h2
theorem mkAtom_ok {gr : Bool} {a : AA} (h : Lays st.1 W) (hj : wdB (lastB st.1) = false) (ha : ∀ t ∈ a.2, OkI t.2) : ∃ t0 U', Lays (mkAtom gs gr a st).2.1 (W ++ t0 :: U') ∧ (tK t0 = 1 ∧ tO t0 = offS gs st) ∧
    (∀ bad c r, tK c ≠ 5 → atomD bad (!gr) (t0 :: U' ++ c :: r) = .ok ((mkAtom gs gr a st).1, c :: r)) ∧ (∀ c r, tK c ≠ 11 → opBeh (U' ++ c :: r) = false) := by
  obtain ⟨w1, w2, w3, w4⟩ := word_shape (name_ok a.1)
  have hne : bat (nameS a.1) 0 ≠ 61 := fun q => by rw [q] at w3; revert w3; decide
  obtain ⟨e, p1, -, -⟩ := put_ok (gs := gs) h (join_word hj hne) (word_tok (name_ok a.1)) (by decide)
  obtain ⟨U, u1, u2, u3, u4⟩ := argsS_ok (gr := gr) p1 ha (min a.2.length 8) (by omega)
  obtain ⟨t0, ht0⟩ : ∃ t0, t0 = ((if true then 1 else 2, nameS a.1, 0, 0, offS gs st, e) : Tok) := ⟨_, rfl⟩
  rw [← ht0] at u1
  have k0 : tK t0 = 1 := by rw [ht0]; rfl
  have kx : tX t0 = nameS a.1 := by rw [ht0]; rfl
  have ko : tO t0 = offS gs st := by rw [ht0]; rfl
  by_cases hl : a.2.length = 0
  · have hm : min a.2.length 8 = 0 := by omega
    refine ⟨t0, [], ?_, ⟨k0, ko⟩, fun bad c r hc => ?_, fun c r hc => ?_⟩
    · have e1 : (mkAtom gs gr a st).2 = (argsS gs gr a.2 (putS gs st (nameS a.1)) (min a.2.length 8)).2 := by unfold mkAtom; simp only; rw [if_pos hl]
      rw [e1]
      rw [u3 hm, List.append_nil] at u1
      exact u1
    · have e1 : (mkAtom gs gr a st).1 = (nameS a.1, [], offS gs st) := by
        unfold mkAtom
        simp only
        rw [hm]; rfl
      rw [e1]
      show atomD bad (!gr) (t0 :: c :: r) = _
      unfold atomD
      simp only
      rw [if_neg (by rw [k0]; simp), if_pos hc, kx, ko]
    · show opBeh (c :: r) = false
      unfold opBeh
      simp only
      exact decide_eq_false hc
  · obtain ⟨S, U', e1, e2, e3⟩ := u4 (by omega)
    obtain ⟨cl, c1, c2, -⟩ := put_sign (gs := gs) u1 (s := [41]) rfl (by decide) sg_close (by decide)
    refine ⟨t0, U ++ [cl], ?_, ⟨k0, ko⟩, fun bad c r hc => ?_, fun c r hc => ?_⟩
    · have e1 : (mkAtom gs gr a st).2 = putS gs (argsS gs gr a.2 (putS gs st (nameS a.1)) (min a.2.length 8)).2 [41] := by unfold mkAtom; simp only; rw [if_neg hl]
      rw [e1]
      have : W ++ t0 :: (U ++ [cl]) = W ++ [t0] ++ U ++ [cl] := by simp
      rw [this]; exact c1
    · rw [e1]
      show atomD bad (!gr) (t0 :: S :: ((U' ++ [cl]) ++ c :: r)) = _
      unfold atomD
      simp only
      rw [if_neg (by rw [k0]; simp), if_neg (by rw [e2]; simp), List.append_assoc]
      show (match argsD bad (!gr) [] (U' ++ cl :: (c :: r)) with | .error e => Except.error e | .ok (a, q) => Except.ok ((tX t0, a, tO t0), q)) = _
      rw [e3, if_neg (by rw [c2]; decide), if_pos c2, kx, ko]
      rfl
    · rw [e1]
      show opBeh (S :: ((U' ++ [cl]) ++ c :: r)) = false
      unfold opBeh
      simp only
      rw [e2]; rfl
theorem termV_off (t : TT) (o : Int) : (termV t o).2.2.2 = o := by
  unfold termV
  repeat' split
  all_goals rfl
def OkAA (a : AA) : Prop := ∀ t ∈ a.2, OkI t.2
def OkLL (l : LL) : Prop := OkAA l.2.1 ∧ OkI l.2.2.2.1.2 ∧ OkI l.2.2.2.2.2
def OkCC (c : CC) : Prop := OkAA c.1 ∧ ∀ l ∈ c.2, OkLL l
theorem isT_11 {k : Int} (h : k = 11) : isT k true = false := by rw [h]; rfl
theorem isT_10 {k : Int} (h : k = 10) : isT k true = false := by rw [h]; rfl
theorem mkLit_ok {l : LL} (h : Lays st.1 W) (hj : wdB (lastB st.1) = false) (hl : OkLL l) : ∃ t0 U', Lays (mkLit gs l st).2.1 (W ++ t0 :: U') ∧
    (∀ bad c r, tK c ≠ 5 → tK c ≠ 11 → litD bad (t0 :: U' ++ c :: r) = .ok ((mkLit gs l st).1, c :: r)) := by
  obtain ⟨la, ll, lr⟩ := hl
  by_cases h0 : l.1 % 3 = 0
  · have e : mkLit gs l st = ((1, (mkAtom gs false l.2.1 st).1, 0, noTerm, noTerm, (mkAtom gs false l.2.1 st).1.2.2), (mkAtom gs false l.2.1 st).2) := by unfold mkLit; rw [if_pos h0]
    obtain ⟨t0, U', u1, ⟨u2, u2o⟩, u3, u4⟩ := mkAtom_ok (gs := gs) (gr := false) h hj la
    refine ⟨t0, U', by rw [e]; exact u1, fun bad c r c5 c11 => ?_⟩
    rw [e]
    have h3 := u3 bad c r c5
    have h4 := u4 c r c11
    rw [List.cons_append] at h3 ⊢
    unfold litD
    simp only
    rw [if_neg (by rw [u2]; decide), if_pos ⟨u2, h4⟩]
    rw [Bool.not_false] at h3
    rw [h3]
    have ho : (mkAtom gs false l.2.1 st).1.2.2 = tO t0 := u2o.symm
    rw [ho]
  by_cases h1 : l.1 % 3 = 1
  · obtain ⟨e10, p1, p2, p3⟩ := put_ok (gs := gs) h (join_word hj (by decide)) sg_not (by decide)
    obtain ⟨b1, b2⟩ := lays_blank p1 (by show 0 < (st.1 ++ gapK gs st.2 ++ [110, 111, 116]).length; simp only [List.length_append, List.length_cons]; omega) p2
    obtain ⟨st2, hst2⟩ : ∃ st2 : MS, st2 = ((putS gs st [110, 111, 116]).1 ++ [32], (putS gs st [110, 111, 116]).2) := ⟨_, rfl⟩
    have e : mkLit gs l st = ((2, (mkAtom gs false l.2.1 st2).1, 0, noTerm, noTerm, offS gs st), (mkAtom gs false l.2.1 st2).2) := by unfold mkLit; rw [if_neg h0, if_pos h1, hst2]
    have b1' : Lays st2.1 (W ++ [(10, [], 0, 0, offS gs st, e10)]) := by rw [hst2]; exact b1
    have b2' : wdB (lastB st2.1) = false := by rw [hst2, b2]; rfl
    obtain ⟨t0, U', u1, ⟨u2, u2o⟩, u3, u4⟩ := mkAtom_ok (gs := gs) (gr := false) b1' b2' la
    refine ⟨(10, [], 0, 0, offS gs st, e10), t0 :: U', ?_, fun bad c r c5 c11 => ?_⟩
    · rw [e]
      have : W ++ (10, [], 0, 0, offS gs st, e10) :: t0 :: U' = W ++ [(10, [], 0, 0, offS gs st, e10)] ++ t0 :: U' := by simp
      rw [this]; exact u1
    · rw [e]
      have h3 := u3 bad c r c5
      rw [Bool.not_false] at h3
      show litD bad ((10, [], 0, 0, offS gs st, e10) :: (t0 :: U' ++ c :: r)) = _
      unfold litD
      simp only
      rw [if_pos (show tK (10, [], 0, 0, offS gs st, e10) = 10 from rfl), h3]
      rfl
  · have e : mkLit gs l st = ((3, noAtom, 1 + l.2.2.1 % 6, (mkTerm gs l.2.2.2.1 st).1, (mkTerm gs l.2.2.2.2 (putS gs (mkTerm gs l.2.2.2.1 st).2 (opS l.2.2.1))).1, (mkTerm gs l.2.2.2.1 st).1.2.2.2),
      (mkTerm gs l.2.2.2.2 (putS gs (mkTerm gs l.2.2.2.1 st).2 (opS l.2.2.1))).2) := by unfold mkLit; rw [if_neg h0, if_neg h1]
    obtain ⟨ta, a1, a2, -, a4, a5, a6⟩ := mkTerm_ok (gs := gs) h ll hj
    obtain ⟨o1, o2⟩ := op_first l.2.2.1
    obtain ⟨eo, p1, -, p3⟩ := put_ok (gs := gs) a1 (join_op o1 a6) (op_ok l.2.2.1) (by decide)
    obtain ⟨tb, b1, b2, -, b4, -, -⟩ := mkTerm_ok (gs := gs) p1 lr (by rw [p3]; rcases o2 with q | q | q <;> rw [q] <;> rfl)
    obtain ⟨op, hop⟩ : ∃ op, op = ((11, [], 0, 1 + l.2.2.1 % 6, offS gs (mkTerm gs l.2.2.2.1 st).2, eo) : Tok) := ⟨_, rfl⟩
    rw [← hop] at b1
    have k11 : tK op = 11 := by rw [hop]; rfl
    have kp : tP op = 1 + l.2.2.1 % 6 := by rw [hop]; rfl
    refine ⟨ta, [op, tb], ?_, fun bad c r c5 c11 => ?_⟩
    · rw [e]
      have : W ++ ta :: [op, tb] = W ++ [ta] ++ [op] ++ [tb] := by simp
      rw [this]; exact b1
    · rw [e]
      show litD bad (ta :: op :: tb :: c :: r) = _
      unfold litD
      simp only
      rw [if_neg (by intro q; rw [isT_10 q] at a2; cases a2), if_neg (by unfold opBeh; simp only; rw [k11]; simp), if_neg (by rw [a2]; simp), if_neg (by rw [k11]; simp), if_neg (by rw [b2]; simp), kp, a4, b4, a5]
      have : (mkTerm gs l.2.2.2.1 st).1.2.2.2 = offS gs st := termV_off _ _
      rw [this]
theorem litD_head {bad : Flt} {t : Tok} {l : List Tok} {x : LitT} {q : List Tok} (h : litD bad (t :: l) = .ok (x, q)) : tK t = 10 ∨ isT (tK t) true = true := by
  unfold litD at h
  by_cases h10 : tK t = 10
  · exact .inl h10
  rw [if_neg h10] at h
  by_cases h1 : tK t = 1 ∧ opBeh l = false
  · exact .inr (by rw [h1.1]; rfl)
  rw [if_neg h1] at h
  by_cases hT : isT (tK t) true = false
  · rw [if_pos hT] at h; cases h
  · exact .inr (by simpa using hT)
theorem getD_okL {l : List LL} (hl : ∀ t ∈ l, OkLL t) (i : Nat) : OkLL (l.getD i noLL) := by
  rw [List.getD_eq_getElem?_getD]
  cases hx : l[i]? with
  | none => exact ⟨fun t ht => (by cases ht), ⟨by decide, by decide⟩, ⟨by decide, by decide⟩⟩
  | some x => exact hl x (List.mem_of_getElem? hx)
theorem bodyS_ok {l : List LL} (h : Lays st.1 W) (hj : wdB (lastB st.1) = false) (hl : ∀ t ∈ l, OkLL t) : ∀ i, i ≤ 16 → ∃ U, Lays (bodyS gs l st i).2.1 (W ++ U) ∧ (bodyS gs l st i).1.length = i ∧ (i = 0 → U = [] ∧ (bodyS gs l st i).2 = st) ∧
    (0 < i → ∀ bad m r, tK m ≠ 5 → tK m ≠ 11 → bodyD bad [] (U ++ m :: r) = if tK m = 7 then bodyD bad (bodyS gs l st i).1 r else if tK m = 8 then .ok ((bodyS gs l st i).1, r) else .error (refuseD m))
  | 0, _ => ⟨[], by rw [List.append_nil]; exact h, rfl, fun _ => ⟨rfl, rfl⟩, fun q => absurd q (Nat.lt_irrefl _)⟩
  | i + 1, hi => by
    obtain ⟨U, h1, h2, h3, h4⟩ := bodyS_ok h hj hl i (by omega)
    obtain ⟨V, s1, s2, s3, s4⟩ : ∃ V, Lays (if i = 0 then (bodyS gs l st i).2 else putS gs (bodyS gs l st i).2 [44]).1 ((W ++ U) ++ V) ∧ wdB (lastB (if i = 0 then (bodyS gs l st i).2 else putS gs (bodyS gs l st i).2 [44]).1) = false ∧ (i = 0 → V = []) ∧ (i ≠ 0 → ∃ S, V = [S] ∧ tK S = 7) := by
      by_cases hi0 : i = 0
      · rw [if_pos hi0]
        refine ⟨[], by rw [List.append_nil]; exact h1, ?_, fun _ => rfl, fun q => absurd hi0 q⟩
        rw [(h3 hi0).2]; exact hj
      · rw [if_neg hi0]
        obtain ⟨S, a, b, c⟩ := put_sign (gs := gs) h1 (s := [44]) rfl (by decide) sg_comma (by decide)
        exact ⟨[S], a, by rw [c]; rfl, fun q => absurd q hi0, fun _ => ⟨S, rfl, b⟩⟩
    obtain ⟨t0, U', t1, t2⟩ := mkLit_ok (gs := gs) s1 s2 (getD_okL hl i)
    have hlits : (bodyS gs l st (i + 1)).1 = (bodyS gs l st i).1 ++ [(mkLit gs (l.getD i noLL) (if i = 0 then (bodyS gs l st i).2 else putS gs (bodyS gs l st i).2 [44])).1] := rfl
    have hstep : ∀ bad m r, tK m ≠ 5 → tK m ≠ 11 → bodyD bad (bodyS gs l st i).1 (t0 :: U' ++ m :: r) = if tK m = 7 then bodyD bad (bodyS gs l st (i + 1)).1 r else if tK m = 8 then .ok ((bodyS gs l st (i + 1)).1, r) else .error (refuseD m) := by
      intro bad m r m5 m11
      have := t2 bad m r m5 m11
      rw [List.cons_append] at this ⊢
      rw [bodyD_lit (by omega) this, hlits]
    refine ⟨U ++ (V ++ t0 :: U'), ?_, by rw [hlits, List.length_append, h2]; rfl, fun q => absurd q (by omega), fun _ bad m r m5 m11 => ?_⟩
    · have : W ++ (U ++ (V ++ t0 :: U')) = (W ++ U ++ V) ++ t0 :: U' := by simp
      rw [this]; exact t1
    · by_cases hi0 : i = 0
      · rw [(h3 hi0).1, s3 hi0]
        have he : (bodyS gs l st i).1 = [] := by rw [hi0]; rfl
        have := hstep bad m r m5 m11
        rw [he] at this
        exact this
      · obtain ⟨S, rfl, hS⟩ := s4 hi0
        have := h4 (by omega) bad S (t0 :: U' ++ m :: r) (by rw [hS]; decide) (by rw [hS]; decide)
        rw [if_pos hS, hstep bad m r m5 m11] at this
        rw [← this]
        simp
theorem mkClause_ok {c : CC} (h : Lays st.1 W) (hj : wdB (lastB st.1) = false) (hc : OkCC c) : ∃ t0 U', Lays (mkClause gs c st).2.1 (W ++ t0 :: U') ∧ tK t0 = 1 ∧ wdB (lastB (mkClause gs c st).2.1) = false ∧
    ∀ bad r, clauseD bad (t0 :: U' ++ r) = .ok ((mkClause gs c st).1, r) := by
  obtain ⟨ca, cb⟩ := hc
  obtain ⟨t0, U', u1, ⟨u2, -⟩, u3, -⟩ := mkAtom_ok (gs := gs) (gr := false) h hj ca
  rw [Bool.not_false] at u3
  by_cases h0 : c.2.length = 0
  · have e : mkClause gs c st = (((mkAtom gs false c.1 st).1, []), putS gs (mkAtom gs false c.1 st).2 [46]) := by unfold mkClause; rw [if_pos h0]
    obtain ⟨d, d1, d2, d3⟩ := put_sign (gs := gs) u1 (s := [46]) rfl (by decide) sg_dot (by decide)
    refine ⟨t0, U' ++ [d], ?_, u2, by rw [e, d3]; rfl, fun bad r => ?_⟩
    · rw [e]
      have : W ++ t0 :: (U' ++ [d]) = W ++ t0 :: U' ++ [d] := by simp
      rw [this]; exact d1
    · rw [e]
      have := u3 bad d r (by rw [d2]; decide)
      have e2 : t0 :: (U' ++ [d]) ++ r = t0 :: U' ++ d :: r := by simp
      rw [e2]
      unfold clauseD
      rw [this]
      simp only
      rw [if_pos d2]
  · have e : mkClause gs c st = (((mkAtom gs false c.1 st).1, (mkBody gs c.2 (putS gs (mkAtom gs false c.1 st).2 [58, 45])).1), putS gs (mkBody gs c.2 (putS gs (mkAtom gs false c.1 st).2 [58, 45])).2 [46]) := by unfold mkClause; rw [if_neg h0]
    obtain ⟨d, d1, d2, d3⟩ := put_sign (gs := gs) u1 (s := [58, 45]) rfl (by decide) sg_arrow (by decide)
    obtain ⟨B, b1, -, -, b4⟩ := bodyS_ok (gs := gs) d1 (by rw [d3]; rfl) cb (min c.2.length 16) (by omega)
    obtain ⟨f, f1, f2, f3⟩ := put_sign (gs := gs) b1 (s := [46]) rfl (by decide) sg_dot (by decide)
    refine ⟨t0, U' ++ d :: (B ++ [f]), ?_, u2, by rw [e]; show wdB (lastB (putS gs (bodyS gs c.2 (putS gs (mkAtom gs false c.1 st).2 [58, 45]) (min c.2.length 16)).2 [46]).1) = false; rw [f3]; rfl, fun bad r => ?_⟩
    · rw [e]
      have : W ++ t0 :: (U' ++ d :: (B ++ [f])) = W ++ t0 :: U' ++ [d] ++ B ++ [f] := by simp
      rw [this]; exact f1
    · rw [e]
      have := u3 bad d (B ++ f :: r) (by rw [d2]; decide)
      have e2 : t0 :: (U' ++ d :: (B ++ [f])) ++ r = t0 :: U' ++ d :: (B ++ f :: r) := by simp
      rw [e2]
      unfold clauseD
      rw [this]
      simp only
      rw [if_neg (by rw [d2]; decide), if_pos d2, b4 (by omega) bad f r (by rw [f2]; decide) (by rw [f2]; decide), if_neg (by rw [f2]; decide), if_pos f2]
      rfl
end
end Edict
