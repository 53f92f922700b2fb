import Derived.Shelf.LaysM
import Derived.Shelf.LaysC
import Derived.Shelf.Strconv.ParseIntPublic10
import Derived.Test.YtmnfhmbmifompaaDoorProg
import Derived.Test.YtmnfhmbmifompaaDoorLexV
import Derived.KernelRfl
section Merged
namespace Go.Proofs
open Go.Shelf
def Tryd.laysC174_ren : Go.Shelf.Ren := ⟨fun | 174 => 134 | 247 => 146 | 245 => 147 | 287 => 156 | 279 => 157 | 280 => 158 | 281 => 159 | 282 => 160 | 321 => 163 | 322 => 164 | 316 => 165 | 171 => 94 | 205 => 166 | 243 => 109 | 246 => 131 | 283 => 142 | 284 => 143 | 285 => 144 | 286 => 145 | 129 => 152 | 317 => 151 | 318 => 153 | 319 => 154 | 320 => 155 | 337 => 161 | 338 => 162 | n => n, fun | 9 => 9 | 3 => 3 | 2 => 2 | 75 => 183 | 85 => 184 | 4 => 4 | 167 => 204 | 5 => 5 | 53 => 191 | 175 => 205 | 46 => 198 | 168 => 207 | 37 => 186 | 0 => 0 | 210 => 213 | 21 => 21 | 127 => 217 | 145 => 220 | 143 => 218 | 171 => 190 | 173 => 194 | 212 => 200 | 51 => 201 | 20 => 20 | 213 => 202 | 232 => 215 | 233 => 216 | 80 => 127 | n => n, fun | 15 => 2 | 16 => 3 | 17 => 1 | 18 => 4 | 19 => 5 | n => n⟩
theorem Tryd.laysC174 : Go.Proofs.LaysC.n174 Tryd.prog Tryd.laysC174_ren := {
  mixed := by kernel_rfl
  f129 := Tryd.func152.trans (congrArg some (by kernel_rfl))
  f171 := Tryd.func94.trans (congrArg some (by kernel_rfl))
  f174 := Tryd.func134.trans (congrArg some (by kernel_rfl))
  f205 := Tryd.func166.trans (congrArg some (by kernel_rfl))
  f243 := Tryd.func109.trans (congrArg some (by kernel_rfl))
  f245 := Tryd.func147.trans (congrArg some (by kernel_rfl))
  f246 := Tryd.func131.trans (congrArg some (by kernel_rfl))
  f247 := Tryd.func146.trans (congrArg some (by kernel_rfl))
  f279 := Tryd.func157.trans (congrArg some (by kernel_rfl))
  f280 := Tryd.func158.trans (congrArg some (by kernel_rfl))
  f281 := Tryd.func159.trans (congrArg some (by kernel_rfl))
  f282 := Tryd.func160.trans (congrArg some (by kernel_rfl))
  f283 := Tryd.func142.trans (congrArg some (by kernel_rfl))
  f284 := Tryd.func143.trans (congrArg some (by kernel_rfl))
  f285 := Tryd.func144.trans (congrArg some (by kernel_rfl))
  f286 := Tryd.func145.trans (congrArg some (by kernel_rfl))
  f287 := Tryd.func156.trans (congrArg some (by kernel_rfl))
  f316 := Tryd.func165.trans (congrArg some (by kernel_rfl))
  f317 := Tryd.func151.trans (congrArg some (by kernel_rfl))
  f318 := Tryd.func153.trans (congrArg some (by kernel_rfl))
  f319 := Tryd.func154.trans (congrArg some (by kernel_rfl))
  f320 := Tryd.func155.trans (congrArg some (by kernel_rfl))
  f321 := Tryd.func163.trans (congrArg some (by kernel_rfl))
  f322 := Tryd.func164.trans (congrArg some (by kernel_rfl))
  f337 := Tryd.func161.trans (congrArg some (by kernel_rfl))
  f338 := Tryd.func162.trans (congrArg some (by kernel_rfl))
  t0 := Tryd.underlying0
  a0 := Tryd.isAgg0
  z0 := Tryd.sizeOf0
  v0 := Tryd.zeroValue0
  t2 := Tryd.underlying2
  a2 := Tryd.isAgg2
  z2 := Tryd.sizeOf2
  v2 := Tryd.zeroValue2
  t3 := Tryd.underlying3
  a3 := Tryd.isAgg3
  z3 := Tryd.sizeOf3
  v3 := Tryd.zeroValue3
  t4 := Tryd.underlying4
  a4 := Tryd.isAgg4
  z4 := Tryd.sizeOf4
  v4 := Tryd.zeroValue4
  t5 := Tryd.underlying5
  a5 := Tryd.isAgg5
  z5 := Tryd.sizeOf5
  v5 := Tryd.zeroValue5
  t9 := Tryd.underlying9
  a9 := Tryd.isAgg9
  z9 := Tryd.sizeOf9
  v9 := Tryd.zeroValue9
  t20 := Tryd.underlying20
  a20 := Tryd.isAgg20
  z20 := Tryd.sizeOf20
  v20 := Tryd.zeroValue20
  t21 := Tryd.underlying21
  a21 := Tryd.isAgg21
  z21 := Tryd.sizeOf21
  v21 := Tryd.zeroValue21
  t37 := Tryd.underlying186
  a37 := Tryd.isAgg186
  z37 := Tryd.sizeOf186
  v37 := Tryd.zeroValue186
  t46 := Tryd.underlying198
  a46 := Tryd.isAgg198
  z46 := Tryd.sizeOf198
  v46 := Tryd.zeroValue198
  t51 := Tryd.underlying201
  a51 := Tryd.isAgg201
  z51 := Tryd.sizeOf201
  v51 := Tryd.zeroValue201
  t53 := Tryd.underlying191
  a53 := Tryd.isAgg191
  z53 := Tryd.sizeOf191
  v53 := Tryd.zeroValue191
  t75 := Tryd.underlying183
  a75 := Tryd.isAgg183
  z75 := Tryd.sizeOf183
  v75 := Tryd.zeroValue183
  t85 := Tryd.underlying184
  a85 := Tryd.isAgg184
  z85 := Tryd.sizeOf184
  v85 := Tryd.zeroValue184
  t127 := Tryd.underlying217
  a127 := Tryd.isAgg217
  z127 := Tryd.sizeOf217
  v127 := Tryd.zeroValue217
  t143 := Tryd.underlying218
  a143 := Tryd.isAgg218
  z143 := Tryd.sizeOf218
  v143 := Tryd.zeroValue218
  t145 := Tryd.underlying220
  a145 := Tryd.isAgg220
  z145 := Tryd.sizeOf220
  v145 := Tryd.zeroValue220
  t167 := Tryd.underlying204
  a167 := Tryd.isAgg204
  z167 := Tryd.sizeOf204
  v167 := Tryd.zeroValue204
  t168 := Tryd.underlying207
  a168 := Tryd.isAgg207
  z168 := Tryd.sizeOf207
  v168 := Tryd.zeroValue207
  t171 := Tryd.underlying190
  a171 := Tryd.isAgg190
  z171 := Tryd.sizeOf190
  v171 := Tryd.zeroValue190
  t173 := Tryd.underlying194
  a173 := Tryd.isAgg194
  z173 := Tryd.sizeOf194
  v173 := Tryd.zeroValue194
  t175 := Tryd.underlying205
  a175 := Tryd.isAgg205
  z175 := Tryd.sizeOf205
  v175 := Tryd.zeroValue205
  t210 := Tryd.underlying213
  a210 := Tryd.isAgg213
  z210 := Tryd.sizeOf213
  v210 := Tryd.zeroValue213
  t212 := Tryd.underlying200
  a212 := Tryd.isAgg200
  z212 := Tryd.sizeOf200
  v212 := Tryd.zeroValue200
  t213 := Tryd.underlying202
  a213 := Tryd.isAgg202
  z213 := Tryd.sizeOf202
  t232 := Tryd.underlying215
  a232 := Tryd.isAgg215
  z232 := Tryd.sizeOf215
  v232 := Tryd.zeroValue215
  t233 := Tryd.underlying216
  a233 := Tryd.isAgg216
  z233 := Tryd.sizeOf216
  v233 := Tryd.zeroValue216
  g15 := by kernel_rfl
  g16 := by kernel_rfl
  g17 := by kernel_rfl
  g18 := by kernel_rfl
  g19 := by kernel_rfl
  t80 := Tryd.underlying127
  a80 := Tryd.isAgg127
  z80 := Tryd.sizeOf127
  v80 := Tryd.zeroValue127
  i0 := by kernel_rfl
  i2 := by kernel_rfl
  i3 := by kernel_rfl
  i4 := by kernel_rfl
  i5 := by kernel_rfl
  i9 := by kernel_rfl
  i20 := by kernel_rfl
  i21 := by kernel_rfl
  i37 := by kernel_rfl
  i46 := by kernel_rfl
  i51 := by kernel_rfl
  i53 := by kernel_rfl
  i75 := by kernel_rfl
  i80 := by kernel_rfl
  i85 := by kernel_rfl
  i127 := by kernel_rfl
  i143 := by kernel_rfl
  i145 := by kernel_rfl
  i167 := by kernel_rfl
  i168 := by kernel_rfl
  i171 := by kernel_rfl
  i173 := by kernel_rfl
  i175 := by kernel_rfl
  i210 := by kernel_rfl
  i212 := by kernel_rfl
  i232 := by kernel_rfl
  i233 := by kernel_rfl
  m15 := by kernel_rfl
  m16 := by kernel_rfl
  m17 := by kernel_rfl
  m18 := by kernel_rfl
  m19 := by kernel_rfl
  c0 := by kernel_rfl
  c2 := by kernel_rfl
  c3 := by kernel_rfl
  c4 := by kernel_rfl
  c5 := by kernel_rfl
  c9 := by kernel_rfl
  c20 := by kernel_rfl
  c21 := by kernel_rfl
  c37 := by kernel_rfl
  c46 := by kernel_rfl
  c51 := by kernel_rfl
  c53 := by kernel_rfl
  c75 := by kernel_rfl
  c80 := by kernel_rfl
  c85 := by kernel_rfl
  c127 := by kernel_rfl
  c143 := by kernel_rfl
  c145 := by kernel_rfl
  c167 := by kernel_rfl
  c168 := by kernel_rfl
  c171 := by kernel_rfl
  c173 := by kernel_rfl
  c175 := by kernel_rfl
  c210 := by kernel_rfl
  c212 := by kernel_rfl
  c213 := by kernel_rfl
  c232 := by kernel_rfl
  c233 := by kernel_rfl }
open Go.RowKit in
/-- strconv.ParseInt(s, 10, 64), AT EVERY STRING THAT SPELLS AN int64 ('Lib.parseIntB 64 s.data.toList = .ok v'): v, AND NO ERROR. (LAID: no walk: one application.) -/
theorem Tryd.strconv_ParseInt_10_at64_ok (s : ByteArray) (hmax : s.size ≤ 9223372036854775806) (v : Int) (h : Lib.parseIntB 64 s.data.toList = .ok v) (w : World) :
    Calls Tryd.prog 134 #[.string s, .int .i64 10, .int .i64 64] w fun e w' => e = .returned (.tuple #[.int .i64 v, .nilIface]) ∧ (w' = w ∨ ∃ t, w' = Lib.bytesWorld w 5 t) := Any.strconv_ParseInt_10_at64_ok Tryd.laysC174 s hmax v h w
open Go.RowKit in
/-- strconv.ParseInt(s, 10, 64), AT EVERY NUMERAL THAT NO int64 HOLDS: THE GREATEST OR THE LEAST int64, BY THE SIGN ('Lib.intSat 64'), AND AN ERROR THAT IS NOT nil: a *NumError in a new block N: {Func: "ParseInt", Num: s's bytes, Err: what the variable ErrRange holds}. Of what was there nothing has turned. (LAID: no walk: one application.) -/
theorem Tryd.strconv_ParseInt_10_at64_range (s : ByteArray) (hlim : s.size ≤ 281474976710656) (h : Lib.parseIntB 64 s.data.toList = .range) (ev : Value) (w : World) (hv : w.cell? ⟨3, 0, none⟩ = some ev) (hev : ev = .nilIface ∨ ∃ te pe, ev = .iface te pe) :
    Calls Tryd.prog 134 #[.string s, .int .i64 10, .int .i64 64] w fun e w' => ∃ N, e = .returned (.tuple #[.int .i64 (Lib.intSat 64 s.data.toList), .iface 207 (.pointer (some ⟨N, 0, none⟩))]) ∧ w.heap.size ≤ N ∧ w'.heap[N]? = some (.cells #[.string ⟨#[80, 97, 114, 115, 101, 73, 110, 116]⟩, .string s, ev] 213 (0, 0)) ∧ Below w.heap.size w w' := Any.strconv_ParseInt_10_at64_range Tryd.laysC174 s hlim h ev w hv hev
end Go.Proofs
end Merged
section Merged
namespace Edict
def decA (a : Nat) (l : List UInt8) : Nat := l.foldl (fun v c => v * 10 + (c.toNat - 48)) a
theorem decA_ge : ∀ (l : List UInt8) (a : Nat), a ≤ decA a l
  | [], a => Nat.le_refl a
  | c :: r, a => by
    have := decA_ge r (a * 10 + (c.toNat - 48))
    simp only [decA, List.foldl_cons] at this ⊢
    omega
theorem parse_dig1 : ∀ (l : List UInt8) (a : Nat), (∀ c ∈ l, dgB c.toNat = true) → a ≤ 18446744073709551615 → Go.Lib.parseUintM 18446744073709551615 a l = if decA a l ≤ 18446744073709551615 then .ok (decA a l) else .range
  | [], a, _, ha => by simp [Go.Lib.parseUintM, decA, ha]
  | c :: r, a, hd, ha => by
    have hc := hd c (by simp)
    have hc' : 48 ≤ c.toNat ∧ c.toNat ≤ 57 := by unfold dgB at hc; simpa using hc
    have hg := decA_ge r (a * 10 + (c.toNat - 48))
    have he : decA a (c :: r) = decA (a * 10 + (c.toNat - 48)) r := rfl
    unfold Go.Lib.parseUintM
    rw [if_pos hc', he]
    by_cases h1 : 1844674407370955162 ≤ a
    · rw [if_pos h1, if_neg (by omega)]
    · rw [if_neg h1]
      by_cases h2 : 18446744073709551615 < a * 10 + (c.toNat - 48)
      · rw [if_pos h2, if_neg (by omega)]
      · rw [if_neg h2]
        exact parse_dig1 r _ (fun x hx => hd x (by simp [hx])) (by omega)
def pintV (neg : Bool) (d : List UInt8) : Option Int := if neg then (if decV d ≤ 9223372036854775808 then some (-(decV d : Nat)) else none) else if decV d ≤ 9223372036854775807 then some (decV d : Nat) else none
def sgnL (neg : Bool) : List UInt8 := if neg then [45] else []
theorem parse_dig {neg : Bool} {d : List UInt8} (h0 : d ≠ []) (hd : ∀ c ∈ d, dgB c.toNat = true) : Go.Lib.parseIntB 64 (sgnL neg ++ d) = match pintV neg d with | some v => .ok v | none => .range := by
  have e1 : (2 : Nat) ^ (64 - 1) = 9223372036854775808 := by decide
  have e2 : (2 : Nat) ^ 64 - 1 = 18446744073709551615 := by decide
  have hp := parse_dig1 d 0 hd (by decide)
  have hdv : decA 0 d = decV d := rfl
  rw [hdv] at hp
  have hu : Go.Lib.parseUintB 64 d = if decV d ≤ 18446744073709551615 then .ok (decV d) else .range := by unfold Go.Lib.parseUintB; rw [if_neg h0, e2, hp]
  cases neg with
  | true =>
    simp only [sgnL, if_true, List.cons_append, List.nil_append, pintV]
    unfold Go.Lib.parseIntB
    simp only [show (45 : UInt8).toNat = 45 from rfl, or_true, if_true, hu, e1]
    by_cases q1 : decV d ≤ 18446744073709551615
    · rw [if_pos q1]
      by_cases q2 : decV d ≤ 9223372036854775808
      · rw [if_pos q2]; simp; omega
      · rw [if_neg q2]; simp; omega
    · rw [if_neg q1, if_neg (by omega)]
  | false =>
    cases d with
    | nil => exact absurd rfl h0
    | cons c r =>
      have hc := hd c (by simp)
      have hc' : 48 ≤ c.toNat ∧ c.toNat ≤ 57 := by unfold dgB at hc; simpa using hc
      simp only [sgnL, Bool.false_eq_true, if_false, List.nil_append, pintV]
      unfold Go.Lib.parseIntB
      simp only [show ¬ c.toNat = 43 by omega, show ¬ c.toNat = 45 by omega, or_self, if_false, hu, e1]
      by_cases q1 : decV (c :: r) ≤ 18446744073709551615
      · rw [if_pos q1]
        by_cases q2 : decV (c :: r) ≤ 9223372036854775807
        · rw [if_pos q2]; simp; omega
        · rw [if_neg q2]; simp; omega
      · rw [if_neg q1, if_neg (by omega)]
end Edict
namespace Go.Ev
open Go
theorem Step.ofSame {u : U} {h h' : H} (hs : h.size ≤ h'.size) (hb : ∀ b, b < h.size → h'[b]? = h[b]?) : Step S0 u h u h' := by
  refine ⟨⟨hs, fun _ _ => Nat.le_refl _, fun b hl => ?_, fun b hl o _ => ?_⟩, fun b hl _ => ⟨hb b hl, rfl⟩⟩
  · unfold hsz hfr; rw [hb b hl]; exact ⟨rfl, rfl⟩
  · unfold Go.Ev.hv hc; rw [hb b hl]
end Go.Ev
namespace Go.Proofs.YtmnfhmbmifompaaDoor
open Go Go.Ev Edict
/-- What strconv.ErrRange holds: an interface. -/
def ErrG (u : U) (h : H) : Prop := 3 < h.size ∧ 1 ≤ hsz h 3 ∧ 1 ≤ u 3 ∧ (hv h 3 0 = .nilIface ∨ ∃ t p, hv h 3 0 = .iface t p)
theorem ErrG.mono {u u' : U} {h h' : H} (k : ErrG u h) (g : Ge u h u' h') : ErrG u' h' := by
  obtain ⟨k1, k2, k3, k4⟩ := k
  refine ⟨Nat.lt_of_lt_of_le k1 g.sz, by rw [(g.hs _ k1).1]; exact k2, Nat.le_trans k3 (g.up _ k1), ?_⟩
  rw [g.cl _ k1 0 (by omega)]; exact k4
def C_pint (vs : List Value) (h : H) (K : Value → H → Prop) : Prop := ∃ (u : U) (neg : Bool) (d : List UInt8), vs = [str (sgnL neg ++ d), .int .i64 10, .int .i64 64] ∧ d.length ≤ 65536 ∧ d ≠ [] ∧ (∀ c ∈ d, dgB c.toNat = true) ∧ ErrG u h ∧
  ∀ u' h', Step S0 u h u' h' → (match pintV neg d with | some v => K (.tuple #[.int .i64 v, .nilIface]) h' | none => ∀ n t p, K (.tuple #[.int .i64 n, .iface t p]) h')
theorem parseInt_ok {vs : List Value} {h : H} {K : Value → H → Prop} {KP : List PanicEntry → H → Prop} (hC : C_pint vs h K) : HCX Tryd.prog 134 vs h K KP := by
  obtain ⟨u, neg, d, rfl, hl, h0, hd, ⟨g1, g2, g3, g4⟩, hK⟩ := hC
  have hp := parse_dig (neg := neg) h0 hd
  have hsl : (sgnL neg).length ≤ 1 := by cases neg <;> simp [sgnL]
  have hsz : (⟨(sgnL neg ++ d).toArray⟩ : ByteArray).size ≤ 65537 := by
    show (sgnL neg ++ d).toArray.size ≤ 65537
    simp only [List.size_toArray, List.length_append]; omega
  refine .inl ⟨by kernel_rfl, fun w hw => ?_⟩
  subst hw
  cases hv : pintV neg d with
  | some v =>
    rw [hv] at hp hK
    refine (Tryd.strconv_ParseInt_10_at64_ok ⟨(sgnL neg ++ d).toArray⟩ (by omega) v hp w).mono ?_
    rintro e w' ⟨rfl, rfl | ⟨t, rfl⟩⟩
    · exact ⟨.refl _, hK u _ (.refl _ _ _)⟩
    · exact ⟨⟨rfl, rfl, rfl⟩, hK u _ (Step.ofSame (by rw [Lib.bytesWorld_size]; omega) (fun b hb => Lib.bytesWorld_at_old _ _ _ _ hb))⟩
  | none =>
    rw [hv] at hp hK
    have hcell : w.cell? ⟨3, 0, none⟩ = some (Go.Ev.hv w.heap 3 0) := by rw [cell_hc]; exact hc_some g2
    refine (Tryd.strconv_ParseInt_10_at64_range ⟨(sgnL neg ++ d).toArray⟩ (by omega) hp _ w hcell g4).mono ?_
    rintro e w' ⟨N, rfl, -, -, hb⟩
    exact ⟨⟨hb.os, hb.tape, hb.output⟩, hK u _ (Step.ofSame hb.size hb.block) _ _ _⟩
end Go.Proofs.YtmnfhmbmifompaaDoor
end Merged
