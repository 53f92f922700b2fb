/- A layer of our own over the walk's base: the heap by cells, quiet and acting operations, and that each does what is said of it. -/
import Derived.Laws.Externs
import Derived.WalkKit
import Derived.WalkSpells
import Derived.WalkLawsBesides
import Derived.OrdersHeld
import Derived.Lib.Strings

namespace Go.Ev

/-! ### The heap, by cells -/
abbrev H := Array Obj
abbrev Env := Nat → Value
def hc (h : H) (b o : Nat) : Option Value := match h[b]? with | some (.cells c _ _) => c[o]? | _ => none
def hsz (h : H) (b : Nat) : Nat := match h[b]? with | some (.cells c _ _) => c.size | _ => 0
def hv (h : H) (b o : Nat) : Value := (hc h b o).getD undef
def hfr (h : H) (b : Nat) : Nat × Nat := match h[b]? with | some (.cells _ _ f) => f | _ => (0, 0)
def hset (h : H) (b o : Nat) (v : Value) : H := h.modify b fun | .cells c e f => .cells (c.setIfInBounds o v) e f | x => x
def hvs (h : H) (b o n : Nat) : List Value := (List.range n).map fun j => hv h b (o + j)

theorem cell_hc (w : World) (b o : Nat) : w.cell? ⟨b, o, none⟩ = hc w.heap b o := by
  unfold World.cell? hc; cases w.heap[b]? with
  | none => rfl
  | some x => cases x <;> rfl
theorem hc_some {h : H} {b o : Nat} (hb : o < hsz h b) : hc h b o = some (hv h b o) := by
  unfold hv hc hsz at *
  cases hx : h[b]? with
  | none => simp [hx] at hb
  | some x => cases x <;> simp_all

/-! ### Views of values -/
def tb : Value → Bool | .bool b => b | _ => false
def ti : Value → Int | .int _ n => n | _ => 0
def tk : Value → IntKind | .int k _ => k | _ => .i64
def bl : Value → List UInt8 | .string s => s.data.toList | _ => []
def str (l : List UInt8) : Value := .string ⟨l.toArray⟩
def isInt : Value → Bool | .int _ _ => true | _ => false
def isStr : Value → Bool | .string _ => true | _ => false
def isSl : Value → Bool | .slice _ _ _ => true | _ => false
def isBool : Value → Bool | .bool _ => true | _ => false
def isB (v : Value) (b : Bool) : Bool := match v with | .bool x => x == b | _ => false
@[simp] theorem bl_str (l : List UInt8) : bl (str l) = l := rfl
@[simp] theorem isStr_str (l : List UInt8) : isStr (str l) = true := rfl
theorem str_bl {v : Value} (h : isStr v = true) : str (bl v) = v := by cases v <;> simp_all [isStr, str, bl]

/-! ### Quiet operations -/
inductive Q1 where
  | id | nilck | fld (off : Nat) | ld1 | ldn (n : Nat) | not | neg | len | lens | ext (i : Nat) | part (off : Nat) | partn (off n : Nat) | conv (k : IntKind)
  deriving Inhabited
inductive Q2 where
  | bin (op : BinOp) | eqb (neg : Bool) | idxS | idxA (n : Nat) | put (off n : Nat) | subLo | subHi | cutLo (n : Nat) | cutHi (n : Nat)
  deriving Inhabited
inductive Q3 where
  | pick | sub | cut (n : Nat)
  deriving Inhabited

def addrOf : Value → Addr | .pointer (some a) => a | _ => default
def s1 : Q1 → Value → H → Prop
  | .id, _, _ => True
  | .nilck, x, _ => match x with | .pointer (some _) => True | _ => False
  | .fld _, x, _ => match x with | .pointer (some _) => True | _ => False
  | .ld1, x, h => match x with | .pointer (some ⟨b, o, none⟩) => o < hsz h b | _ => False
  | .ldn n, x, h => match x with | .pointer (some ⟨b, o, none⟩) => o + n ≤ hsz h b | _ => False
  | .not, x, _ => isBool x = true
  | .neg, x, _ => isInt x = true
  | .len, x, _ => isSl x = true
  | .lens, x, _ => isStr x = true
  | .ext i, x, _ => match x with | .tuple vs => i < vs.size | _ => False
  | .part o, x, _ => match x with | .agg cs => o < cs.size | _ => False
  | .partn _ _, x, _ => match x with | .agg _ => True | _ => False
  | .conv _, x, _ => isInt x = true
def v1 : Q1 → Value → H → Value
  | .id, x, _ => x
  | .nilck, x, _ => x
  | .fld n, x, _ => match x with | .pointer (some a) => .pointer (some (a.add n)) | _ => undef
  | .ld1, x, h => match x with | .pointer (some a) => hv h a.block a.off | _ => undef
  | .ldn n, x, h => match x with | .pointer (some a) => .agg (hvs h a.block a.off n).toArray | _ => undef
  | .not, x, _ => .bool (!tb x)
  | .neg, x, _ => .int (tk x) ((tk x).wrap (0 - ti x))
  | .len, x, _ => match x with | .slice _ n _ => .int .i64 n | _ => undef
  | .lens, x, _ => .int .i64 (bl x).length
  | .ext i, x, _ => match x with | .tuple vs => vs.getD i undef | _ => undef
  | .part o, x, _ => match x with | .agg cs => cs.getD o undef | _ => undef
  | .partn o n, x, _ => match x with | .agg cs => .agg (cs.extract o (o + n)) | _ => undef
  | .conv k, x, _ => .int k (k.wrap (ti x))

def arith (op : BinOp) (a b : Int) : Int := match op with
  | .add => a + b | .sub => a - b | .mul => a * b | .quo => a.tdiv b | .rem => a.tmod b | _ => 0
def icmp (op : BinOp) (a b : Int) : Bool := match op with
  | .eql => decide (a = b) | .neq => !decide (a = b) | .lss => decide (a < b) | .leq => decide (a ≤ b) | .gtr => decide (b < a) | .geq => decide (b ≤ a) | _ => false
def scmp (op : BinOp) (a b : List UInt8) : Bool := match op with
  | .eql => decide (a = b) | .neq => !decide (a = b) | .lss => Op.bytesLess a b | .leq => Op.bytesLess a b || decide (a = b)
  | .gtr => !(Op.bytesLess a b || decide (a = b)) | .geq => !Op.bytesLess a b | _ => false
def isCmp : BinOp → Bool | .eql | .neq | .lss | .leq | .gtr | .geq => true | _ => false
def isArith : BinOp → Bool | .add | .sub | .mul | .quo | .rem => true | _ => false

def s2 : Q2 → Value → Value → H → Prop
  | .bin op, x, y, _ => match x with
    | .int k _ => isInt y = true ∧ tk y = k ∧ (isCmp op = true ∨ isArith op = true) ∧ (op = .quo ∨ op = .rem → ti y ≠ 0)
    | .string _ => isStr y = true ∧ (isCmp op = true ∨ op = .add ∧ (bl x).length + (bl y).length ≤ 9223372036854775807)
    | _ => False
  | .eqb _, x, y, _ => isBool x = true ∧ isBool y = true
  | .idxS, x, i, _ => isStr x = true ∧ isInt i = true ∧ 0 ≤ ti i ∧ ti i < (bl x).length
  | .idxA _, x, i, _ => match x with | .slice (some _) n _ => isInt i = true ∧ 0 ≤ ti i ∧ ti i < n | _ => False
  | .put o n, x, v, _ => match x with | .agg cs => v.cells.size = n ∧ o + n ≤ cs.size | _ => False
  | .subLo, x, i, _ => isStr x = true ∧ isInt i = true ∧ 0 ≤ ti i ∧ ti i ≤ (bl x).length
  | .subHi, x, i, _ => isStr x = true ∧ isInt i = true ∧ 0 ≤ ti i ∧ ti i ≤ (bl x).length
  | .cutLo _, x, i, _ => match x with | .slice _ n _ => isInt i = true ∧ 0 ≤ ti i ∧ ti i ≤ n | _ => False
  | .cutHi _, x, i, _ => match x with | .slice _ _ c => isInt i = true ∧ 0 ≤ ti i ∧ ti i ≤ c | _ => False
def putv (cs : Array Value) (o : Nat) (v : Value) : Array Value := v.cells.zipIdx.foldl (fun cs (c, j) => cs.setIfInBounds (o + j) c) cs
def v2 : Q2 → Value → Value → H → Value
  | .bin op, x, y, _ => match x with
    | .int k a => if isArith op then .int k (if op == .rem then arith op a (ti y) else k.wrap (arith op a (ti y))) else .bool (icmp op a (ti y))
    | .string _ => if op == .add then str (bl x ++ bl y) else .bool (scmp op (bl x) (bl y))
    | _ => undef
  | .eqb neg, x, y, _ => .bool (if neg then !decide (tb x = tb y) else decide (tb x = tb y))
  | .idxS, x, i, _ => .int .u8 ((bl x).getD (ti i).toNat 0).toNat
  | .idxA m, x, i, _ => match x with | .slice (some a) _ _ => .pointer (some (a.add ((ti i).toNat * m))) | _ => undef
  | .put o _, x, v, _ => match x with | .agg cs => .agg (putv cs o v) | _ => undef
  | .subLo, x, i, _ => str ((bl x).drop (ti i).toNat)
  | .subHi, x, i, _ => str ((bl x).take (ti i).toNat)
  | .cutLo m, x, i, _ => match x with | .slice a n c => .slice (if c = (ti i).toNat then a else a.map (·.add ((ti i).toNat * m))) (n - (ti i).toNat) (c - (ti i).toNat) | _ => undef
  | .cutHi _, x, i, _ => match x with | .slice a _ c => .slice a (ti i).toNat c | _ => undef
def s3 : Q3 → Value → Value → Value → H → Prop
  | .pick, c, _, _, _ => isBool c = true
  | .sub, x, i, j, _ => isStr x = true ∧ isInt i = true ∧ isInt j = true ∧ 0 ≤ ti i ∧ ti i ≤ ti j ∧ ti j ≤ (bl x).length
  | .cut _, x, i, j, _ => match x with | .slice _ _ c => isInt i = true ∧ isInt j = true ∧ 0 ≤ ti i ∧ ti i ≤ ti j ∧ ti j ≤ c | _ => False
def v3 : Q3 → Value → Value → Value → H → Value
  | .pick, c, a, b, _ => if tb c then a else b
  | .sub, x, i, j, _ => str (((bl x).take (ti j).toNat).drop (ti i).toNat)
  | .cut m, x, i, j, _ => match x with
    | .slice a _ c => .slice (if c = (ti i).toNat then a else a.map (·.add ((ti i).toNat * m))) ((ti j).toNat - (ti i).toNat) (c - (ti i).toNat)
    | _ => undef
end Go.Ev

namespace Go.Ev
open BinOp

/-! ### Operations, sorted -/
inductive F where
  | call (f : FuncId) | box (t : TypeId) | alloc (t : TypeId) (zero : Array Value) | store (n : Nat)
  deriving Inhabited
inductive K where
  | q1 (q : Q1) (x : Operand) | q2 (q : Q2) (x y : Operand) | q3 (q : Q3) (x y z : Operand)
  | bld (zero : Array Value) (parts : List (Nat × Nat × Operand))
  | asg (x : Operand) | ef (f : F) (xs : List Operand)
  deriving Inhabited

/-- The heap turns, and draws are made: nothing else. -/
structure Keep (w w' : World) : Prop where
  os : w'.os = w.os
  tape : w'.tape = w.tape
  output : w'.output = w.output
theorem Keep.refl (w : World) : Keep w w := ⟨rfl, rfl, rfl⟩
theorem Keep.trans {a b c : World} (h : Keep a b) (k : Keep b c) : Keep a c := ⟨k.os.trans h.os, k.tape.trans h.tape, k.output.trans h.output⟩

/-- A call, by heaps alone. -/
def HC (P : Program) (f : FuncId) (args : List Value) (h : H) (R : Ending → H → Prop) : Prop :=
  ∀ w : World, w.heap = h → Calls P f args.toArray w fun e w' => Keep w w' ∧ R e w'.heap
theorem HC.mono {P : Program} {f : FuncId} {args : List Value} {h : H} {R R' : Ending → H → Prop} (hc : HC P f args h R) (hr : ∀ e h', R e h' → R' e h') : HC P f args h R' :=
  fun w hw => (hc w hw).mono fun _ _ ⟨k, r⟩ => ⟨k, hr _ _ r⟩

def okCell : Value → Bool | .agg _ | .tuple _ => false | _ => true
def hsets (h : H) (b o : Nat) : List Value → H
  | [] => h
  | v :: r => hsets (hset h b o v) b (o + 1) r
def parts (v : Value) (z : Value → Prop) : Prop := z v

def callK (K : Value → H → Prop) (KP : List PanicEntry → H → Prop) : Ending → H → Prop
  | .returned v, h => K v h
  | .panicked c, h => KP c h
  | .outgrown, _ => False
/-- What is known of the functions that are called. -/
abbrev Ctr := FuncId → List Value → H → (Value → H → Prop) → (List PanicEntry → H → Prop) → Prop
/-- Is it a function with a text of its own? -/
def hasB (P : Program) (f : FuncId) : Bool := match P.funcs[f]? with | some fn => fn.body.isSome && fn.name != "runtime.NumGoroutine" | none => false
/-- A call of a function that the model answers for. -/
def HX (P : Program) (f : FuncId) (vs : List Value) (h : H) (K : Value → H → Prop) : Prop := ∀ w : World, w.heap = h → ∃ v w', (callFunc f vs.toArray).run P w = .ok (.value v) w' ∧ Keep w w' ∧ K v w'.heap
def HCX (P : Program) (f : FuncId) (vs : List Value) (h : H) (K : Value → H → Prop) (KP : List PanicEntry → H → Prop) : Prop := (hasB P f = true ∧ HC P f vs h (callK K KP)) ∨ (hasB P f = false ∧ HX P f vs h K)
theorem HCX.hc {P : Program} {f : FuncId} {vs : List Value} {h : H} {K : Value → H → Prop} {KP : List PanicEntry → H → Prop} (c : HCX P f vs h K KP) (hb : hasB P f = true) : HC P f vs h (callK K KP) := by
  rcases c with c | c
  · exact c.2
  · rw [hb] at c; cases c.1
theorem HCX.extern {P : Program} {f : FuncId} {fn : Func} {e : Array Value → Sem Value} {vs : List Value} {h : H} {K : Value → H → Prop} {KP : List PanicEntry → H → Prop} (hf : P.funcs[f]? = some fn) (hname : (fn.name == "runtime.NumGoroutine") = false)
    (hb : fn.body.isNone = true) (hn : Extern.findNext fn = none) (he : Extern.find fn = some e) (hr : ∀ w : World, w.heap = h → ∃ v w', (e vs.toArray).run P w = .ok v w' ∧ Keep w w' ∧ K v w'.heap) : HCX P f vs h K KP := by
  have h2 : fn.body = none := by simpa using hb
  refine .inr ⟨by simp [hasB, hf, h2], fun w hw => ?_⟩
  obtain ⟨v, w', h1, hk, hK⟩ := hr w hw
  exact ⟨v, w', by rw [run_callFunc_extern hf hname hb hn he, h1]; rfl, hk, hK⟩
def GOk (P : Program) (G : Ctr) : Prop := ∀ f vs h K KP, G f vs h K KP → HCX P f vs h K KP
def fpre (G : Ctr) (f : F) (vs : List Value) (h : H) (K : Value → H → Prop) (KP : List PanicEntry → H → Prop) : Prop := match f, vs with
  | .call f, vs => G f vs h K KP
  | .box t, [v] => K (.pointer (some ⟨h.size, 0, none⟩)) (h.push (.cells v.cells t))
  | .alloc t z, [] => K (.pointer (some ⟨h.size, 0, none⟩)) (h.push (.cells z t))
  | .store n, [p, v] => match p with
    | .pointer (some ⟨b, o, none⟩) => v.cells.size = n ∧ o + n ≤ hsz h b ∧ (o + n ≤ (hfr h b).1 ∨ (hfr h b).2 ≤ o) ∧ v.cells.toList.all okCell = true ∧ K undef (hsets h b o v.cells.toList)
    | _ => False
  | _, _ => False

/-- What a kind of operation says of the operation itself. -/
def Says (P : Program) (o : Oper) : K → Prop
  | .q1 q x => ∀ (ρ : Operand → Value) (w : World), s1 q (ρ x) w.heap → (execOp ρ o).run P w = .ok (.value (v1 q (ρ x) w.heap)) w
  | .q2 q x y => ∀ (ρ : Operand → Value) (w : World), s2 q (ρ x) (ρ y) w.heap → (execOp ρ o).run P w = .ok (.value (v2 q (ρ x) (ρ y) w.heap)) w
  | .q3 q x y z => ∀ (ρ : Operand → Value) (w : World), s3 q (ρ x) (ρ y) (ρ z) w.heap → (execOp ρ o).run P w = .ok (.value (v3 q (ρ x) (ρ y) (ρ z) w.heap)) w
  | .bld z ps => ∀ (ρ : Operand → Value) (w : World), (∀ p ∈ ps, (ρ p.2.2).cells.size = p.2.1 ∧ p.1 + p.2.1 ≤ z.size) →
      (execOp ρ o).run P w = .ok (.value (.agg (ps.foldl (fun cs p => putv cs p.1 (ρ p.2.2)) z))) w
  | .asg x => ∀ (ρ : Operand → Value) (w : World), (execOp ρ o).run P w = .ok (.value (ρ x)) w
  | .ef f xs => ∀ (G : Ctr), GOk P G → ∀ (a : Act) (w : World) (next : Act → World → Prop) (Q : Exit → Act → World → Prop) (K : Value → H → Prop) (KP : List PanicEntry → H → Prop),
      fpre G f (xs.map a.eval) w.heap K KP → (∀ v w', Keep w w' → K v w'.heap → next (a.put o.dst v) w') → (∀ c w', Keep w w' → KP c w'.heap → Q (.panic c) a w') →
      o.wp P a w next Q

def sizeT (P : Program) (t : TypeId) : Option Nat := (P.info? t).map (·.size)
def aggT (P : Program) (t : TypeId) : Option Bool := (P.underlying t).map fun | .struct _ | .array _ _ => true | _ => false
def zeroT (P : Program) (t : TypeId) : Option (Array Value) := (P.info? t).bind fun i => i.zero.map (·.cells)
def fieldT (P : Program) (s : TypeId) (f : Nat) : Option Field := match P.underlying s with
  | some (.struct fs) => fs[f]?
  | _ => none
inductive Kd where | int | str | bool | slice (n : Nat) | other
def kindT (P : Program) (t : TypeId) : Kd := match P.underlying t with
  | some (.int _) => .int
  | some .string => .str
  | some .bool => .bool
  | some (.slice e) => match sizeT P e with | some n => .slice n | none => .other
  | _ => .other

section
variable {P : Program} {ρ : Operand → Value} {w : World} {t : TypeId} {d : TypeDesc} {n : Nat} {b : Bool}
theorem und (h : P.underlying t = some d) : (underlying t).run P w = .ok d w := by simp [underlying, h]
theorem siz (h : sizeT P t = some n) : (sizeOf t).run P w = .ok n w := by
  unfold sizeT at h
  cases hi : P.info? t with
  | none => simp [hi] at h
  | some i => simp [hi] at h; simp [sizeOf, typeInfo, hi, h]
theorem agg (h : aggT P t = some b) : (isAgg t).run P w = .ok b w := by
  unfold aggT at h
  cases hi : P.underlying t with
  | none => simp [hi] at h
  | some d => simp [hi] at h; subst h; cases d <;> simp [isAgg, und hi]
theorem fieldT_spec {s : TypeId} {f : Nat} {fl : Field} (h : fieldT P s f = some fl) : ∃ fs, P.underlying s = some (.struct fs) ∧ fs[f]? = some fl := by
  unfold fieldT at h
  split at h
  · rename_i fs hu; exact ⟨fs, hu, h⟩
  · cases h
theorem kind_int (h : kindT P t = .int) : ∃ k, P.underlying t = some (.int k) := by
  unfold kindT at h
  split at h <;> try (cases h; done)
  · rename_i k hu; exact ⟨k, hu⟩
  · split at h <;> cases h
theorem kind_str (h : kindT P t = .str) : P.underlying t = some .string := by
  unfold kindT at h
  split at h <;> try (cases h; done)
  · assumption
  · split at h <;> cases h
theorem kind_bool (h : kindT P t = .bool) : P.underlying t = some .bool := by
  unfold kindT at h
  split at h <;> try (cases h; done)
  · assumption
  · split at h <;> cases h
theorem kind_slice (h : kindT P t = .slice n) : ∃ e, P.underlying t = some (.slice e) ∧ sizeT P e = some n := by
  unfold kindT at h
  split at h <;> try (cases h; done)
  rename_i e hu
  split at h <;> cases h
  rename_i hs
  exact ⟨e, hu, hs⟩

def trMove (x : Operand) : Option K := some (.q1 .id x)
def trPick (c a b : Operand) : Option K := some (.q3 .pick c a b)
def trNil (x : Operand) : Option K := some (.q1 .nilck x)
def trFieldAddr (P : Program) (s : TypeId) (x : Operand) (f : Nat) : Option K :=
  (fieldT P s f).bind fun fl => match sizeT P fl.type with
    | some (_ + 1) => some (.q1 (.fld fl.offset) x)
    | _ => none
def trLoad (P : Program) (t : TypeId) (x : Operand) : Option K := match aggT P t, sizeT P t with
  | some true, some n => some (.q1 (.ldn n) x)
  | some false, some _ => some (.q1 .ld1 x)
  | _, _ => none
def binOk : BinOp → Bool | .add | .sub | .mul | .quo | .rem | .eql | .neq | .lss | .leq | .gtr | .geq => true | _ => false
def trBin (P : Program) (op : BinOp) (t : TypeId) (x y : Operand) : Option K := match kindT P t with
  | .int | .str => if binOk op then some (.q2 (.bin op) x y) else none
  | .bool => match op with
    | .eql => some (.q2 (.eqb false) x y)
    | .neq => some (.q2 (.eqb true) x y)
    | _ => none
  | _ => none
def trUn (op : UnOp) (x : Operand) : Option K := match op with
  | .not => some (.q1 .not x)
  | .neg => some (.q1 .neg x)
  | _ => none
def trConv (P : Program) (s d : TypeId) (x : Operand) : Option K := match P.underlying s, P.underlying d with
  | some (.int _), some (.int k) => some (.q1 (.conv k) x)
  | _, _ => none
def trField (P : Program) (t : TypeId) (x : Operand) (f : Nat) : Option K :=
  (fieldT P t f).bind fun fl => match aggT P fl.type, sizeT P fl.type with
    | some true, some n => some (.q1 (.partn fl.offset n) x)
    | some false, some _ => some (.q1 (.part fl.offset) x)
    | _, _ => none
def trIndex (P : Program) (t : TypeId) (x i : Operand) : Option K := match kindT P t with
  | .str => some (.q2 .idxS x i)
  | _ => none
def trIndexAddr (P : Program) (t : TypeId) (x i : Operand) : Option K := match kindT P t with
  | .slice n => some (.q2 (.idxA n) x i)
  | _ => none
def trSlice (P : Program) (t : TypeId) (x : Operand) (lo hi mx : Option Operand) : Option K := match kindT P t, mx with
  | .str, none => match lo, hi with
    | some l, some h => some (.q3 .sub x l h)
    | some l, none => some (.q2 .subLo x l)
    | none, some h => some (.q2 .subHi x h)
    | none, none => none
  | .slice n, none => match lo, hi with
    | some l, some h => some (.q3 (.cut n) x l h)
    | some l, none => some (.q2 (.cutLo n) x l)
    | none, some h => some (.q2 (.cutHi n) x h)
    | none, none => none
  | _, _ => none
def trBuild (P : Program) (t : TypeId) (parts : Array (Nat × Operand)) : Option K := match P.info? t, P.underlying t with
  | some it, some (.struct fields) => match it.zero, fields.toList.mapM (fun f => (P.info? f.type).map fun i => (f.offset, i.size)) with
    | some z, some places => if parts.toList.all (fun p => (places.toArray[p.1]?).isSome) then
        some (.bld z.cells (parts.toList.map fun p => (((places.toArray[p.1]?).getD (0, 0)).1, ((places.toArray[p.1]?).getD (0, 0)).2, p.2))) else none
    | _, _ => none
  | _, _ => none
def trCall (P : Program) (c : Call) : Option K := match c.callee with
  | .builtin .len => match c.args.toList, c.argTypes.toList with
    | [x], [t] => match kindT P t with
      | .str => some (.q1 .lens x)
      | .slice _ => some (.q1 .len x)
      | _ => none
    | _, _ => none
  | .value (.func f) => some (.ef (.call f) c.args.toList)
  | _ => none
def trAlloc (P : Program) (t : TypeId) : Option K := (zeroT P t).map fun z => .ef (.alloc t z) []
def trStore (P : Program) (t : TypeId) (a x : Operand) : Option K := (sizeT P t).map fun n => .ef (.store n) [a, x]

/-- What an operation is. -/
def tr (P : Program) (o : Oper) : Option K := match o.op with
  | .move x => trMove x
  | .assign x => some (.asg x)
  | .pick c a b => trPick c a b
  | .nilCheck x => trNil x
  | .fieldAddr s x f => trFieldAddr P s x f
  | .load t x => trLoad P t x
  | .binOp op t x y _ => trBin P op t x y
  | .unOp op _ x => trUn op x
  | .convert s d x => trConv P s d x
  | .extract x i => some (.q1 (.ext i) x)
  | .field t x f => trField P t x f
  | .index t x i => trIndex P t x i
  | .indexAddr t x i => trIndexAddr P t x i
  | .slice t x lo hi mx => trSlice P t x lo hi mx
  | .build t ps => trBuild P t ps
  | .call c => trCall P c
  | .box t x => some (.ef (.box t) [x])
  | .alloc t => trAlloc P t
  | .store t a x => trStore P t a x
  | _ => none
end
end Go.Ev

namespace Go.Ev
section
variable {P : Program} {o : Oper} {k : K} {t s d : TypeId} {x y z : Operand}

theorem exec_op {ρ : Operand → Value} {op : Op} (ho : o.op = op) : execOp ρ o = execOp ρ { o with op := op } := by subst ho; rfl

theorem says_move (ho : o.op = .move x) (h : trMove x = some k) : Says P o k := by
  cases h; intro ρ w _; rw [exec_op ho]; rfl
theorem says_asg (ho : o.op = .assign x) : Says P o (.asg x) := by
  intro ρ w; rw [exec_op ho]; rfl
theorem says_pick (ho : o.op = .pick x y z) (h : trPick x y z = some k) : Says P o k := by
  cases h; intro ρ w hs; rw [exec_op ho]
  cases hx : ρ x <;> simp [s3, isBool, hx] at hs
  rename_i b
  cases b <;> simp [execOp, hx, asBool, v3, tb]
theorem says_nil (ho : o.op = .nilCheck x) (h : trNil x = some k) : Says P o k := by
  cases h; intro ρ w hs; rw [exec_op ho]
  cases hx : ρ x <;> simp only [hx, s1] at hs
  rename_i p
  cases p <;> simp_all [execOp, v1]
theorem says_fieldAddr {f : Nat} (ho : o.op = .fieldAddr s x f) (h : trFieldAddr P s x f = some k) : Says P o k := by
  unfold trFieldAddr at h
  cases hf : fieldT P s f with
  | none => simp [hf] at h
  | some fl =>
    simp only [hf, Option.bind_some] at h
    split at h <;> try (cases h; done)
    rename_i n hn
    cases h
    intro ρ w hs
    rw [exec_op ho]
    obtain ⟨fs, h1, h2⟩ := fieldT_spec hf
    cases hx : ρ x <;> simp only [hx, s1] at hs
    rename_i p
    cases p with
    | none => simp at hs
    | some a => simp [execOp, hx, v1, Instr.fieldAt, und h1, h2, Instr.sureAddr, fieldPlace, siz hn]
theorem add0 (b o n : Nat) : Addr.add ⟨b, o, none⟩ n = ⟨b, o + n, none⟩ := Addr.add_lit b o n
theorem says_load (ho : o.op = .load t x) (h : trLoad P t x = some k) : Says P o k := by
  unfold trLoad at h
  split at h <;> try (cases h; done)
  · rename_i n h1 h2
    cases h
    intro ρ w hs
    rw [exec_op ho]
    simp only [s1] at hs
    split at hs <;> try (exact hs.elim)
    rename_i b o hx
    have hl := run_loadCells (P := P) (w := w) ⟨b, o, none⟩ n (fun j => hv w.heap b (o + j)) (fun j hj => by rw [add0, cell_hc]; exact hc_some (by omega))
    simp only [execOp, hx, v1, Instr.loadAt, Instr.sureAddr, loadVar, Sem.run_bind, Sem.run_pure, Result.andThen_ok, agg h1, siz h2, if_true, hl]
    rfl
  · rename_i n h1 h2
    cases h
    intro ρ w hs
    rw [exec_op ho]
    simp only [s1] at hs
    split at hs <;> try (exact hs.elim)
    rename_i b o hx
    simp [execOp, hx, v1, Instr.loadAt, Instr.sureAddr, loadVar, agg h1, cell_hc, hc_some hs]
theorem says_un {op : UnOp} (ho : o.op = .unOp op t x) (h : trUn op x = some k) : Says P o k := by
  unfold trUn at h
  split at h <;> try (cases h; done)
  · cases h; intro ρ w hs; rw [exec_op ho]
    cases hx : ρ x <;> simp [hx, s1, isBool] at hs
    simp [execOp, hx, v1, Op.unary, tb]
  · cases h; intro ρ w hs; rw [exec_op ho]
    cases hx : ρ x <;> simp [hx, s1, isInt] at hs
    simp [execOp, hx, v1, Op.unary, ti, tk, Op.intArith]
theorem says_conv (ho : o.op = .convert s d x) (h : trConv P s d x = some k) : Says P o k := by
  unfold trConv at h
  split at h <;> try (cases h; done)
  rename_i k' k h1 h2
  cases h; intro ρ w hs; rw [exec_op ho]
  cases hx : ρ x <;> simp [hx, s1, isInt] at hs
  simp [execOp, hx, v1, convert, und h1, und h2, Conv.intToInt, ti]
theorem says_ext {i : Nat} (ho : o.op = .extract x i) : Says P o (.q1 (.ext i) x) := by
  intro ρ w hs; rw [exec_op ho]
  cases hx : ρ x <;> simp only [hx, s1] at hs
  simp [execOp, hx, v1, Instr.extract, hs]
theorem says_field {f : Nat} (ho : o.op = .field t x f) (h : trField P t x f = some k) : Says P o k := by
  unfold trField at h
  cases hf : fieldT P t f with
  | none => simp [hf] at h
  | some fl =>
    simp only [hf, Option.bind_some] at h
    obtain ⟨fs, h1, h2⟩ := fieldT_spec hf
    split at h <;> try (cases h; done)
    · rename_i n h3 h4
      cases h; intro ρ w hs; rw [exec_op ho]
      cases hx : ρ x <;> simp only [hx, s1] at hs
      simp [execOp, hx, v1, Instr.field, und h1, h2, part, agg h3, siz h4, asAgg]
    · rename_i n h3 h4
      cases h; intro ρ w hs; rw [exec_op ho]
      cases hx : ρ x <;> simp only [hx, s1] at hs
      simp [execOp, hx, v1, Instr.field, und h1, h2, part, agg h3, asAgg, hs]
theorem bl_beq (a b : ByteArray) : (a.toList == b.toList) = decide (a.data.toList = b.data.toList) := by
  rw [Lib.toList_data, Lib.toList_data]; exact Bool.eq_iff_iff.2 (by simp)
theorem says_bin {op : BinOp} {yt : TypeId} (ho : o.op = .binOp op t x y yt) (h : trBin P op t x y = some k) : Says P o k := by
  unfold trBin at h
  have key : binOk op = true → Says P o (.q2 (.bin op) x y) := by
    intro hok ρ w hs
    rw [exec_op ho]
    simp only [s2] at hs
    split at hs <;> try (exact hs.elim)
    · rename_i k' a hx
      obtain ⟨h1, h2, h3, h4⟩ := hs
      cases hy : ρ y <;> simp [hy, isInt] at h1
      rename_i k2 b
      simp only [hy, tk] at h2; subst h2
      simp only [execOp, hx, hy, v2]
      cases op <;> simp_all [binOk, eqGuard, binOp, Op.intArith, Op.intDiv, Op.intCmp, isArith, arith, icmp, ti] <;> first | rfl | exact Bool.eq_iff_iff.2 (by simp)
    · rename_i a hx
      obtain ⟨h1, h2⟩ := hs
      cases hy : ρ y <;> simp [hy, isStr] at h1
      rename_i b
      simp only [execOp, hx, hy, v2]
      cases op <;> simp_all [binOk, eqGuard, binOp, Op.stringOp, isCmp, scmp, bl, bl_beq]
      case add =>
        rw [if_neg (by omega)]
        simp only [str, Result.ok.injEq, Next.value.injEq, Value.string.injEq, and_true]
        obtain ⟨⟨a⟩⟩ := a; obtain ⟨⟨b⟩⟩ := b
        rfl
      all_goals simp only [Lib.toList_data]
  split at h
  · split at h
    · rename_i hk hb; cases h; exact key hb
    · cases h
  · split at h
    · rename_i hk hb; cases h; exact key hb
    · cases h
  · rename_i hk
    have hu := kind_bool hk
    split at h <;> try (cases h; done)
    · cases h; intro ρ w hs; rw [exec_op ho]
      obtain ⟨h1, h2⟩ := hs
      cases hx : ρ x <;> simp [hx, isBool] at h1
      cases hy : ρ y <;> simp [hy, isBool] at h2
      rename_i b1 b2
      cases b1 <;> cases b2 <;> simp [execOp, hx, hy, v2, eqGuard, binOp, run_equal_bool w t _ _ hu, tb]
    · cases h; intro ρ w hs; rw [exec_op ho]
      obtain ⟨h1, h2⟩ := hs
      cases hx : ρ x <;> simp [hx, isBool] at h1
      cases hy : ρ y <;> simp [hy, isBool] at h2
      rename_i b1 b2
      cases b1 <;> cases b2 <;> simp [execOp, hx, hy, v2, eqGuard, binOp, run_equal_bool w t _ _ hu, tb]
  · cases h

theorem getElem?_bl (s : ByteArray) (i : Nat) (hi : i < s.size) : s[i]? = some (s.data.toList.getD i 0) := by
  obtain ⟨⟨l⟩⟩ := s
  have : i < l.length := hi
  show (if h : i < (⟨⟨l⟩⟩ : ByteArray).size then some _ else none) = _
  rw [dif_pos hi]
  simp [List.getD_eq_getElem?_getD, List.getElem?_eq_getElem this]
  rfl
theorem says_index {i : Operand} (ho : o.op = .index t x i) (h : trIndex P t x i = some k) : Says P o k := by
  unfold trIndex at h
  split at h <;> try (cases h; done)
  rename_i hk
  have hu := kind_str hk
  cases h; intro ρ w hs; rw [exec_op ho]
  obtain ⟨h1, h2, h3, h4⟩ := hs
  cases hx : ρ x <;> simp [hx, isStr] at h1
  cases hy : ρ i <;> simp [hy, isInt] at h2
  rename_i s k' n
  simp only [hx, hy, ti, bl, ← Lib.size_eq] at h3 h4
  simp [execOp, hx, hy, v2, Instr.index, asIntOf, und hu, h3, ti, bl, getElem?_bl s n.toNat (by omega)]
theorem says_indexAddr {i : Operand} (ho : o.op = .indexAddr t x i) (h : trIndexAddr P t x i = some k) : Says P o k := by
  unfold trIndexAddr at h
  split at h <;> try (cases h; done)
  rename_i n hk
  obtain ⟨e, hu, hz⟩ := kind_slice hk
  cases h; intro ρ w hs; rw [exec_op ho]
  simp only [s2] at hs
  split at hs <;> try (exact hs.elim)
  rename_i a len cap hx
  obtain ⟨h1, h2, h3⟩ := hs
  cases hy : ρ i <;> simp [hy, isInt] at h1
  simp only [hy, ti] at h2 h3
  simp [execOp, hx, hy, v2, Instr.indexAt, asIntOf, und hu, h2, h3, ti, siz hz]
theorem extract_str (s : ByteArray) (i j : Nat) : (.string (s.extract i j) : Value) = str ((s.data.toList.take j).drop i) := by
  simp only [str, Value.string.injEq]
  rw [Lib.extract_eq, List.drop_take]
theorem bound_run {v : Value} {y : Nat} {c : BoundsCode} {w : World} (h1 : isInt v = true) (h2 : 0 ≤ ti v) (h3 : ti v ≤ y) : (Instr.sliceBound v y c).run P w = .ok (ti v).toNat w := by
  cases v <;> simp [isInt] at h1
  simp only [ti] at h2 h3 ⊢
  simp [Instr.sliceBound, asIntOf, h2, h3]
theorem says_slice {lo hi mx : Option Operand} (ho : o.op = .slice t x lo hi mx) (h : trSlice P t x lo hi mx = some k) : Says P o k := by
  unfold trSlice at h
  split at h <;> try (cases h; done)
  · rename_i hk
    have hu := kind_str hk
    split at h <;> try (cases h; done)
    · rename_i l hh
      cases h; intro ρ w hs; rw [exec_op ho]
      obtain ⟨h1, h2, h3, h4, h5, h6⟩ := hs
      cases hx : ρ x <;> simp [hx, isStr] at h1
      simp only [hx, bl, ← Lib.size_eq] at h6
      have e1 := fun c => bound_run (P := P) (w := w) (c := c) h3 (by omega) h6
      have e2 := fun c => bound_run (P := P) (w := w) (c := c) h2 h4 (y := (ti (ρ hh)).toNat) (by omega)
      simp [execOp, hx, v3, Instr.sliceAt, Instr.slice, Instr.sliceBounds, und hu, bl, e1, e2, extract_str]
    · cases h; intro ρ w hs; rw [exec_op ho]
      obtain ⟨h1, h2, h3, h4⟩ := hs
      cases hx : ρ x <;> simp [hx, isStr] at h1
      simp only [hx, bl, ← Lib.size_eq] at h4
      simp [execOp, hx, v2, Instr.sliceAt, Instr.slice, Instr.sliceBounds, und hu, bl, bound_run h2 h3 h4, extract_str]
      rw [List.take_of_length_le (by rw [← Lib.size_eq]; omega)]
    · cases h; intro ρ w hs; rw [exec_op ho]
      obtain ⟨h1, h2, h3, h4⟩ := hs
      cases hx : ρ x <;> simp [hx, isStr] at h1
      simp only [hx, bl, ← Lib.size_eq] at h4
      simp [execOp, hx, v2, Instr.sliceAt, Instr.slice, Instr.sliceBounds, und hu, bl, bound_run h2 h3 h4, extract_str]
  · rename_i n hk
    obtain ⟨e, hu, hz⟩ := kind_slice hk
    split at h <;> try (cases h; done)
    · rename_i l hh
      cases h; intro ρ w hs; rw [exec_op ho]
      simp only [s3] at hs
      split at hs <;> try (exact hs.elim)
      rename_i a len cap hx
      obtain ⟨h1, h2, h3, h4, h5⟩ := hs
      have e1 := fun c => bound_run (P := P) (w := w) (c := c) h2 (by omega) h5
      have e2 := fun c => bound_run (P := P) (w := w) (c := c) h1 h3 (y := (ti (ρ hh)).toNat) (by omega)
      simp [execOp, hx, v3, Instr.sliceAt, Instr.slice, Instr.sliceBounds, und hu, siz hz, e1, e2]
    · cases h; intro ρ w hs; rw [exec_op ho]
      simp only [s2] at hs
      split at hs <;> try (exact hs.elim)
      rename_i a len cap hx
      obtain ⟨h1, h2, h3⟩ := hs
      simp [execOp, hx, v2, Instr.sliceAt, Instr.slice, Instr.sliceBounds, und hu, siz hz, bound_run h1 h2 h3]
    · cases h; intro ρ w hs; rw [exec_op ho]
      simp only [s2] at hs
      split at hs <;> try (exact hs.elim)
      rename_i a len cap hx
      obtain ⟨h1, h2, h3⟩ := hs
      simp [execOp, hx, v2, Instr.sliceAt, Instr.slice, Instr.sliceBounds, und hu, siz hz, bound_run h1 h2 h3, Addr.add]

theorem foldl_size (o : Nat) : ∀ (ls : List (Value × Nat)) (cs : Array Value), (ls.foldl (fun cs p => cs.setIfInBounds (o + p.2) p.1) cs).size = cs.size
  | [], _ => rfl
  | _ :: ys, cs => by simp only [List.foldl_cons]; rw [foldl_size o ys]; simp
theorem putv_size (cs : Array Value) (o : Nat) (v : Value) : (putv cs o v).size = cs.size := by
  unfold putv; rw [← Array.foldl_toList]; exact foldl_size o _ cs
theorem parts_fill (z : Array Value) (ρ : Operand → Value) (place : Nat → Option (Nat × Nat)) : ∀ (ps : List (Nat × Operand)) (l : List (Nat × Nat × Operand)) (cs : Array Value), cs.size = z.size →
    (∀ p ∈ ps, (place p.1).isSome) → l = ps.map (fun p => (((place p.1).getD (0,0)).1, ((place p.1).getD (0,0)).2, p.2)) →
    (∀ p ∈ l, (ρ p.2.2).cells.size = p.2.1 ∧ p.1 + p.2.1 ≤ z.size) →
    Instr.fill place cs (ps.map fun p => (p.1, ρ p.2)) = some (l.foldl (fun cs p => putv cs p.1 (ρ p.2.2)) cs)
  | [], l, cs, _, _, hl, _ => by subst hl; rfl
  | (i, x) :: ps, l, cs, hcs, hp, hl, hok => by
    subst hl
    have h0 := hp (i, x) (by simp)
    obtain ⟨⟨o, n⟩, he⟩ := Option.isSome_iff_exists.1 h0
    have hk := hok (o, n, x) (by simp only [List.map_cons, List.mem_cons]; left; simp only at he; simp [he])
    simp only [List.map_cons, Instr.fill, List.foldl_cons]
    simp only at he
    rw [he]
    simp only [Option.getD_some]
    rw [if_neg (by have := hk.1; have := hk.2; simp only at *; rw [hcs]; simp; omega)]
    have hsz : (putv cs o (ρ x)).size = z.size := by rw [putv_size, hcs]
    exact parts_fill z ρ place ps _ _ hsz (fun p hm => hp p (by simp [hm])) rfl (fun p hm => hok p (by simp only [List.map_cons, List.mem_cons]; right; exact hm))

theorem says_build {ps : Array (Nat × Operand)} (ho : o.op = .build t ps) (h : trBuild P t ps = some k) : Says P o k := by
  unfold trBuild at h
  split at h <;> try (cases h; done)
  rename_i it fields hi hu
  split at h <;> try (cases h; done)
  rename_i z places hz hpl
  split at h <;> try (cases h; done)
  rename_i hall
  cases h; intro ρ w hs; rw [exec_op ho]
  have hb : P.built t (ps.map fun (i, x) => (i, ρ x)).toList = some ((ps.toList.map fun p => (((places.toArray[p.1]?).getD (0, 0)).1, ((places.toArray[p.1]?).getD (0, 0)).2, p.2)).foldl (fun cs p => putv cs p.1 (ρ p.2.2)) z.cells) := by
    unfold Program.built
    simp only [hi, hu, hz, hpl, Array.toList_map]
    exact parts_fill z.cells ρ _ ps.toList _ _ rfl (fun p hp => (List.all_eq_true.1 hall) p hp) rfl hs
  simp only [execOp, Sem.run_bind, run_build w t _ _ hb, Result.andThen_ok]; rfl

theorem upon_value {a : Act} {w w' : World} {next : Act → World → Prop} {Q : Exit → Act → World → Prop} {v : Value} (h : (execOp a.eval o).run P w = .ok (.value v) w') (hn : next (a.put o.dst v) w') : o.wp P a w next Q := by
  unfold Oper.wp; rw [h]; exact hn
theorem says_box (ho : o.op = .box t x) : Says P o (.ef (.box t) [x]) := by
  intro G hG a w next Q K KP hf hn _
  simp only [List.map_cons, List.map_nil, fpre] at hf
  refine upon_value (w' := { w with heap := w.heap.push (.cells (a.eval x).cells t) }) (by rw [exec_op ho]; simp [execOp, Instr.box, newVar, newRow]) (hn _ _ ⟨rfl, rfl, rfl⟩ hf)
theorem says_alloc (ho : o.op = .alloc t) (h : trAlloc P t = some k) : Says P o k := by
  unfold trAlloc at h
  cases hz : zeroT P t with
  | none => simp [hz] at h
  | some z =>
    simp only [hz, Option.map_some, Option.some.injEq] at h
    subst h
    unfold zeroT at hz
    cases hi : P.info? t with
    | none => simp [hi] at hz
    | some it =>
      simp only [hi, Option.bind_some] at hz
      cases hze : it.zero with
      | none => simp [hze] at hz
      | some zv =>
        simp only [hze, Option.map_some, Option.some.injEq] at hz
        intro G hG a w next Q K KP hf hn _
        simp only [List.map_nil, fpre] at hf
        refine upon_value (w' := { w with heap := w.heap.push (.cells z t) }) (by rw [exec_op ho]; simp [execOp, Instr.alloc, zeroValue, typeInfo, hi, hze, newVar, newRow, hz]) (hn _ _ ⟨rfl, rfl, rfl⟩ hf)

theorem setCell_heap (w : World) (b o : Nat) (v : Value) : w.setCell ⟨b, o, none⟩ v = { w with heap := hset w.heap b o v } := by
  unfold World.setCell hset
  simp only [Option.isSome_none, Bool.false_eq_true, if_false]
  congr 2
theorem frozen_heap (w : World) (b o : Nat) : w.frozen? ⟨b, o, none⟩ = (decide ((hfr w.heap b).1 ≤ o) && decide (o < (hfr w.heap b).2)) := by
  unfold World.frozen? hfr
  cases w.heap[b]? with
  | none => simp
  | some x => cases x <;> simp
theorem hset_get (h : H) (b o : Nat) (v : Value) (k : Nat) : (hset h b o v)[k]? = if k = b then (h[b]?).map (fun | .cells c e f => .cells (c.setIfInBounds o v) e f | x => x) else h[k]? := by
  unfold hset
  rw [Array.getElem?_modify]
  split
  · rename_i hk; subst hk; rw [if_pos rfl] <;> (cases h[k]? <;> first | rfl | (rename_i x; cases x <;> rfl))
  · rename_i hk; rw [if_neg (Ne.symm hk)]
theorem hset_sz (h : H) (b o : Nat) (v : Value) (k : Nat) : hsz (hset h b o v) k = hsz h k := by
  unfold hsz
  rw [hset_get]
  by_cases hk : k = b
  · subst hk
    rw [if_pos rfl]
    cases h[k]? with
    | none => rfl
    | some x => cases x <;> simp
  · rw [if_neg hk]
theorem hset_fr (h : H) (b o : Nat) (v : Value) (k : Nat) : hfr (hset h b o v) k = hfr h k := by
  unfold hfr
  rw [hset_get]
  by_cases hk : k = b
  · subst hk
    rw [if_pos rfl]
    cases h[k]? with
    | none => rfl
    | some x => cases x <;> simp
  · rw [if_neg hk]
theorem run_stores (P : Program) (b : Nat) : ∀ (vs : List Value) (o i : Nat) (w : World), o + i + vs.length ≤ hsz w.heap b → (o + i + vs.length ≤ (hfr w.heap b).1 ∨ (hfr w.heap b).2 ≤ o + i) → vs.all okCell = true →
    (storeCells ⟨b, o, none⟩ vs i).run P w = .ok () { w with heap := hsets w.heap b (o + i) vs }
  | [], o, i, w, _, _, _ => rfl
  | v :: r, o, i, w, h1, h2, h3 => by
    simp only [List.all_cons, Bool.and_eq_true] at h3
    simp only [List.length_cons] at h1 h2
    have hv : v.oneCell' = true := by have := h3.1; cases v <;> simp_all [okCell, Value.oneCell']
    simp only [storeCells, Sem.run_bind, run_store P _ _ v _ hv, add0, cell_hc, hc_some (show o + i < hsz w.heap b by omega)]
    rw [if_neg (by rw [frozen_heap]; simp; omega), setCell_heap]
    simp only [Result.andThen_ok]
    rw [run_stores P b r o (i + 1) _ (by simp only [hset_sz]; omega) (by simp only [hset_fr]; omega) h3.2]
    rfl
theorem says_store (ho : o.op = .store t x y) (h : trStore P t x y = some k) : Says P o k := by
  unfold trStore at h
  cases hz : sizeT P t with
  | none => simp [hz] at h
  | some n =>
    simp only [hz, Option.map_some, Option.some.injEq] at h
    subst h
    intro G hG a w next Q K KP hf hn _
    simp only [List.map_cons, List.map_nil, fpre] at hf
    split at hf <;> try (exact hf.elim)
    rename_i b o' hx
    obtain ⟨h1, h2, h3, h4, h5⟩ := hf
    have hr := run_stores P b (a.eval y).cells.toList o' 0 w (by simp; omega) (by simp; omega) h4
    have : (execOp a.eval o).run P w = .ok .skip { w with heap := hsets w.heap b o' (a.eval y).cells.toList } := by
      rw [exec_op ho]
      simp [execOp, hx, Instr.storeAt, Instr.sureAddr, storeVar, siz hz, h1, hr]
    unfold Oper.wp; rw [this]
    exact hn undef { w with heap := hsets w.heap b o' (a.eval y).cells.toList } ⟨rfl, rfl, rfl⟩ h5

theorem says_call {c : Call} (ho : o.op = .call c) (h : trCall P c = some k) : Says P o k := by
  obtain ⟨cal, args, ats⟩ := c
  unfold trCall at h
  split at h <;> try (cases h; done)
  · rename_i hc
    simp only at hc
    subst hc
    split at h <;> try (cases h; done)
    rename_i x' t' hx ht
    have ea : args = #[x'] := by apply Array.toList_inj.1; simpa using hx
    have et : ats = #[t'] := by apply Array.toList_inj.1; simpa using ht
    subst ea et
    split at h <;> try (cases h; done)
    · rename_i hk
      have hu := kind_str hk
      cases h; intro ρ w hs; rw [exec_op ho]
      simp only [s1] at hs
      cases hx : ρ x' <;> simp only [hx, Bool.false_eq_true, isStr] at hs
      · rename_i s'
        have hz := Lib.size_eq s'
        simp [execOp, resolve, invoke, builtin, Builtin.len_, und hu, hx, v1, goInt, bl]
    · rename_i n hk
      obtain ⟨e, hu, hz⟩ := kind_slice hk
      cases h; intro ρ w hs; rw [exec_op ho]
      simp only [s1] at hs
      cases hx : ρ x' <;> simp only [hx, Bool.false_eq_true, isSl] at hs
      · simp [execOp, resolve, invoke, builtin, Builtin.len_, und hu, hx, v1, goInt]
  · rename_i f hc
    simp only at hc
    subst hc
    cases h
    intro G hG a w next Q K KP hf hn hp
    simp only [fpre] at hf
    have e1 : (args.toList.map a.eval).toArray = args.map a.eval := by apply Array.toList_inj.1; simp only [Array.toList_map]
    rcases hG _ _ _ _ _ hf with ⟨hb, hc⟩ | ⟨_, hc⟩
    · unfold hasB at hb
      split at hb
      · rename_i fn hfn
        simp only [Bool.and_eq_true, bne_iff_ne, ne_eq] at hb
        have hr : (execOp a.eval o).run P w = .ok (.enter f (args.toList.map a.eval).toArray) w := by
          rw [exec_op ho]
          obtain ⟨bd, hbd⟩ := Option.isSome_iff_exists.1 hb.1
          rw [e1]
          simp [execOp, resolve, Deferred.ofValue, Act.eval, invoke, callFunc, hfn, hb.2, hbd]
        unfold Oper.wp; rw [hr]
        refine (hc w rfl).mono fun e w' ⟨hk, hR⟩ => ?_
        cases e with
        | returned v => exact hn _ _ hk hR
        | panicked c => exact hp _ _ hk hR
        | outgrown => exact hR.elim
      · cases hb
    · obtain ⟨v, w', hr, hk, hK⟩ := hc w rfl
      refine upon_value (w' := w') (v := v) ?_ (hn _ _ hk hK)
      rw [exec_op ho]
      rw [e1] at hr
      simp only [execOp, resolve, Deferred.ofValue, Act.eval, invoke, Sem.run_bind, Sem.run_pure, Result.andThen_ok, Array.append_empty, Array.empty_append, List.append_toArray, List.nil_append, Array.append_assoc]
      exact hr

theorem tr_says (h : tr P o = some k) : Says P o k := by
  cases ho : o.op <;> simp only [tr, ho] at h <;> try (cases h; done)
  case move => exact says_move ho h
  case assign => cases h; exact says_asg ho
  case pick => exact says_pick ho h
  case nilCheck => exact says_nil ho h
  case fieldAddr => exact says_fieldAddr ho h
  case load => exact says_load ho h
  case binOp => exact says_bin ho h
  case unOp => exact says_un ho h
  case convert => exact says_conv ho h
  case extract => cases h; exact says_ext ho
  case field => exact says_field ho h
  case index => exact says_index ho h
  case indexAddr => exact says_indexAddr ho h
  case slice => exact says_slice ho h
  case build => exact says_build ho h
  case call => exact says_call ho h
  case box => cases h; exact says_box ho
  case alloc => exact says_alloc ho h
  case store => exact says_store ho h
end
end Go.Ev

