/- A layer of our own over the walk's base: the heap by cells, quiet and acting operations, and that each does what is said of it. -/
import Derived.Laws.Externs
import Derived.Laws.BytesString
import Derived.Laws.Append
import Derived.Laws.AppendOwn
import Derived.Laws.StructEq
import Derived.Laws.IdiomStrings
import Derived.MapKept
import Derived.WalkKit
import Derived.WalkSpells
import Derived.WalkLawsBesides
import Derived.OrdersHeld
import Derived.Lib.Strings
import Derived.Lib.AppendStr
import Derived.DeepKeys3

namespace Go.Ev

/-! ### The heap, by cells -/
abbrev H := Array Obj
abbrev Env := Nat → Value
def hc (h : H) (b o : Nat) : Option Value := match h[b]? with | some (.cells c _ _) => c[o]? | _ => none
def hsz (h : H) (b : Nat) : Nat := match h[b]? with | some (.cells c _ _) => c.size | _ => 0
def hv (h : H) (b o : Nat) : Value := (hc h b o).getD undef
def hfr (h : H) (b : Nat) : Nat × Nat := match h[b]? with | some (.cells _ _ f) => f | _ => (0, 0)
def hset (h : H) (b o : Nat) (v : Value) : H := h.modify b fun | .cells c e f => .cells (c.setIfInBounds o v) e f | x => x
def hvs (h : H) (b o n : Nat) : List Value := (List.range n).map fun j => hv h b (o + j)

theorem cell_hc (w : World) (b o : Nat) : w.cell? ⟨b, o, none⟩ = hc w.heap b o := by
  unfold World.cell? hc; cases w.heap[b]? with
  | none => rfl
  | some x => cases x <;> rfl
theorem hc_some {h : H} {b o : Nat} (hb : o < hsz h b) : hc h b o = some (hv h b o) := by
  unfold hv hc hsz at *
  cases hx : h[b]? with
  | none => simp [hx] at hb
  | some x => cases x <;> simp_all

/-! ### Views of values -/
def tb : Value → Bool | .bool b => b | _ => false
def ti : Value → Int | .int _ n => n | _ => 0
def tk : Value → IntKind | .int k _ => k | _ => .i64
def bl : Value → List UInt8 | .string s => s.data.toList | _ => []
def str (l : List UInt8) : Value := .string ⟨l.toArray⟩
def isInt : Value → Bool | .int _ _ => true | _ => false
def isStr : Value → Bool | .string _ => true | _ => false
def isSl : Value → Bool | .slice _ _ _ => true | _ => false
def isBool : Value → Bool | .bool _ => true | _ => false
def isB (v : Value) (b : Bool) : Bool := match v with | .bool x => x == b | _ => false
@[simp] theorem bl_str (l : List UInt8) : bl (str l) = l := rfl
@[simp] theorem isStr_str (l : List UInt8) : isStr (str l) = true := rfl
theorem str_bl {v : Value} (h : isStr v = true) : str (bl v) = v := by cases v <;> simp_all [isStr, str, bl]

/-! ### Cells that can be compared -/
inductive Kc where | int (k : IntKind) | str | bool
  deriving Inhabited
def kcOk : Kc → Value → Bool
  | .int k, .int k' _ => decide (k = k') | .str, .string _ => true | .bool, .bool _ => true | _, _ => false
def kcsOk : List Kc → List Value → Bool
  | [], [] => true
  | k :: ks, v :: vs => kcOk k v && kcsOk ks vs
  | _, _ => false
def ceq : Value → Value → Bool
  | .int _ a, .int _ b => decide (a = b) | .string a, .string b => decide (a.data.toList = b.data.toList) | .bool a, .bool b => decide (a = b) | _, _ => false
/-- A cell that may stand in a map's key. -/
def kwOk : Kc → Value → Bool
  | .int k, .int k' n => decide (k' = k) && (Lit.int k n).wf | .str, .string s => decide (s.size ≤ maxLen) | .bool, .bool _ => true | _, _ => false
def kwsOk : List Kc → List Value → Bool
  | [], [] => true
  | k :: ks, v :: vs => kwOk k v && kwsOk ks vs
  | _, _ => false
/-- A key that is a struct or an array of plain cells. -/
def keyG (ks : List Kc) (v : Value) : Bool := match v with | .agg xs => kwsOk ks xs.toList | _ => false
def eqL : List Value → List Value → Bool
  | [], [] => true
  | a :: x, b :: y => ceq a b && eqL x y
  | _, _ => false
/-- Is it the nil of its kind; none: there is no telling. -/
inductive Kn where | ptr | sl | map | iface | func
  deriving Inhabited
def nil? : Kn → Value → Option Bool
  | .ptr, .pointer a => some a.isNone | .sl, .slice a _ _ => some a.isNone | .map, .map a => some a.isNone | .iface, .nilIface => some true | .iface, .iface _ _ => some false | .func, .nilFunc => some true | .func, .func _ _ _ => some false | _, _ => none
def bitsI (op : BinOp) (k : IntKind) (x y : Int) : Int := match op with
  | .and => k.wrap (BitVec.ofInt k.bits x &&& BitVec.ofInt k.bits y).toNat
  | .or => k.wrap (BitVec.ofInt k.bits x ||| BitVec.ofInt k.bits y).toNat
  | .xor => k.wrap (BitVec.ofInt k.bits x ^^^ BitVec.ofInt k.bits y).toNat
  | .andNot => k.wrap (BitVec.ofInt k.bits x &&& ~~~(BitVec.ofInt k.bits y)).toNat
  | .shl => k.wrap (x * 2 ^ (min y.toNat k.bits))
  | .shr => x.fdiv (2 ^ (min y.toNat k.bits))
  | _ => 0
def isShift : BinOp → Bool | .shl | .shr => true | _ => false
def isBits : BinOp → Bool | .and | .or | .xor | .andNot | .shl | .shr => true | _ => false
/-! ### Quiet operations -/
inductive Q1 where
  | id | nilck | fld (off : Nat) | ld1 | ldn (n : Nat) | not | neg | len | lens | ext (i : Nat) | part (off : Nat) | partn (off n : Nat) | conv (k : IntKind) | mki (t : TypeId) | cap | bnot | arr (n : Nat)
  deriving Inhabited
inductive Q2 where
  | bin (op : BinOp) | eqb (neg : Bool) | idxS | idxA (n : Nat) | put (off n : Nat) | subLo | subHi | cutLo (n : Nat) | cutHi (n : Nat) | bits (op : BinOp) | eqn (k : Kn) (neg : Bool) | eqs (neg : Bool) (ks : List Kc) | idxP (len n : Nat) | idxR (len n : Nat) (agg : Bool) | mm (max : Bool) | cutPL (len n : Nat) | cutPH (len : Nat)
  deriving Inhabited
inductive Q3 where
  | pick | sub | cut (n : Nat) | cutP (len n : Nat)
  deriving Inhabited

def addrOf : Value → Addr | .pointer (some a) => a | _ => default
def s1 : Q1 → Value → H → Prop
  | .id, _, _ => True
  | .nilck, x, _ => match x with | .pointer (some _) => True | _ => False
  | .fld _, x, _ => match x with | .pointer (some _) => True | _ => False
  | .ld1, x, h => match x with | .pointer (some ⟨b, o, none⟩) => o < hsz h b | _ => False
  | .ldn n, x, h => match x with | .pointer (some ⟨b, o, none⟩) => o + n ≤ hsz h b | _ => False
  | .not, x, _ => isBool x = true
  | .neg, x, _ => isInt x = true
  | .len, x, _ => isSl x = true
  | .lens, x, _ => isStr x = true
  | .ext i, x, _ => match x with | .tuple vs => i < vs.size | _ => False
  | .part o, x, _ => match x with | .agg cs => o < cs.size | _ => False
  | .partn _ _, x, _ => match x with | .agg _ => True | _ => False
  | .conv _, x, _ => isInt x = true
  | .mki _, _, _ => True
  | .cap, x, _ => isSl x = true
  | .bnot, x, _ => isInt x = true
  | .arr _, x, _ => match x with | .pointer (some ⟨_, _, none⟩) => True | _ => False
def v1 : Q1 → Value → H → Value
  | .id, x, _ => x
  | .nilck, x, _ => x
  | .fld n, x, _ => match x with | .pointer (some a) => .pointer (some (a.add n)) | _ => undef
  | .ld1, x, h => match x with | .pointer (some a) => hv h a.block a.off | _ => undef
  | .ldn n, x, h => match x with | .pointer (some a) => .agg (hvs h a.block a.off n).toArray | _ => undef
  | .not, x, _ => .bool (!tb x)
  | .neg, x, _ => .int (tk x) ((tk x).wrap (0 - ti x))
  | .len, x, _ => match x with | .slice _ n _ => .int .i64 n | _ => undef
  | .lens, x, _ => .int .i64 (bl x).length
  | .ext i, x, _ => match x with | .tuple vs => vs.getD i undef | _ => undef
  | .part o, x, _ => match x with | .agg cs => cs.getD o undef | _ => undef
  | .partn o n, x, _ => match x with | .agg cs => .agg (cs.extract o (o + n)) | _ => undef
  | .conv k, x, _ => .int k (k.wrap (ti x))
  | .mki t, x, _ => .iface t x
  | .cap, x, _ => match x with | .slice _ _ c => .int .i64 c | _ => undef
  | .bnot, x, _ => .int (tk x) (bitsI .xor (tk x) (if (tk x).signed then -1 else (tk x).max) (ti x))
  | .arr n, x, _ => match x with | .pointer (some a) => .slice (some a) n n | _ => undef

def arith (op : BinOp) (a b : Int) : Int := match op with
  | .add => a + b | .sub => a - b | .mul => a * b | .quo => a.tdiv b | .rem => a.tmod b | _ => 0
def icmp (op : BinOp) (a b : Int) : Bool := match op with
  | .eql => decide (a = b) | .neq => !decide (a = b) | .lss => decide (a < b) | .leq => decide (a ≤ b) | .gtr => decide (b < a) | .geq => decide (b ≤ a) | _ => false
def scmp (op : BinOp) (a b : List UInt8) : Bool := match op with
  | .eql => decide (a = b) | .neq => !decide (a = b) | .lss => Op.bytesLess a b | .leq => Op.bytesLess a b || decide (a = b)
  | .gtr => !(Op.bytesLess a b || decide (a = b)) | .geq => !Op.bytesLess a b | _ => false
def isCmp : BinOp → Bool | .eql | .neq | .lss | .leq | .gtr | .geq => true | _ => false
def isArith : BinOp → Bool | .add | .sub | .mul | .quo | .rem => true | _ => false

def s2 : Q2 → Value → Value → H → Prop
  | .bin op, x, y, _ => match x with
    | .int k _ => isInt y = true ∧ tk y = k ∧ (isCmp op = true ∨ isArith op = true) ∧ (op = .quo ∨ op = .rem → ti y ≠ 0)
    | .string _ => isStr y = true ∧ (isCmp op = true ∨ op = .add ∧ (bl x).length + (bl y).length ≤ 9223372036854775807)
    | _ => False
  | .eqb _, x, y, _ => isBool x = true ∧ isBool y = true
  | .idxS, x, i, _ => isStr x = true ∧ isInt i = true ∧ 0 ≤ ti i ∧ ti i < (bl x).length
  | .idxA _, x, i, _ => match x with | .slice (some _) n _ => isInt i = true ∧ 0 ≤ ti i ∧ ti i < n | _ => False
  | .put o n, x, v, _ => match x with | .agg cs => v.cells.size = n ∧ o + n ≤ cs.size | _ => False
  | .subLo, x, i, _ => isStr x = true ∧ isInt i = true ∧ 0 ≤ ti i ∧ ti i ≤ (bl x).length
  | .subHi, x, i, _ => isStr x = true ∧ isInt i = true ∧ 0 ≤ ti i ∧ ti i ≤ (bl x).length
  | .cutLo _, x, i, _ => match x with | .slice _ n _ => isInt i = true ∧ 0 ≤ ti i ∧ ti i ≤ n | _ => False
  | .cutHi _, x, i, _ => match x with | .slice _ _ c => isInt i = true ∧ 0 ≤ ti i ∧ ti i ≤ c | _ => False
  | .bits op, x, y, _ => isInt x = true ∧ isInt y = true ∧ (if isShift op then 0 ≤ ti y else tk x = tk y)
  | .eqn k _, x, y, _ => match nil? k x, nil? k y with | some a, some b => (a || b) = true | _, _ => False
  | .eqs _ ks, x, y, _ => match x, y with | .agg a, .agg b => kcsOk ks a.toList = true ∧ kcsOk ks b.toList = true | _, _ => False
  | .idxP l _, x, i, _ => match x with | .pointer (some _) => isInt i = true ∧ 0 ≤ ti i ∧ ti i < l | _ => False
  | .idxR l n _, x, i, _ => match x with | .agg cs => isInt i = true ∧ 0 ≤ ti i ∧ ti i < l ∧ (ti i).toNat * n < cs.size | _ => False
  | .mm _, x, y, _ => isInt x = true ∧ isInt y = true
  | .cutPL l _, x, i, _ => match x with | .pointer (some ⟨_, _, none⟩) => isInt i = true ∧ 0 ≤ ti i ∧ ti i ≤ l | _ => False
  | .cutPH l, x, i, _ => match x with | .pointer (some ⟨_, _, none⟩) => isInt i = true ∧ 0 ≤ ti i ∧ ti i ≤ l | _ => False
def putv (cs : Array Value) (o : Nat) (v : Value) : Array Value := v.cells.zipIdx.foldl (fun cs (c, j) => cs.setIfInBounds (o + j) c) cs
def v2 : Q2 → Value → Value → H → Value
  | .bin op, x, y, _ => match x with
    | .int k a => if isArith op then .int k (if op == .rem then arith op a (ti y) else k.wrap (arith op a (ti y))) else .bool (icmp op a (ti y))
    | .string _ => if op == .add then str (bl x ++ bl y) else .bool (scmp op (bl x) (bl y))
    | _ => undef
  | .eqb neg, x, y, _ => .bool (if neg then !decide (tb x = tb y) else decide (tb x = tb y))
  | .idxS, x, i, _ => .int .u8 ((bl x).getD (ti i).toNat 0).toNat
  | .idxA m, x, i, _ => match x with | .slice (some a) _ _ => .pointer (some (a.add ((ti i).toNat * m))) | _ => undef
  | .put o _, x, v, _ => match x with | .agg cs => .agg (putv cs o v) | _ => undef
  | .subLo, x, i, _ => str ((bl x).drop (ti i).toNat)
  | .subHi, x, i, _ => str ((bl x).take (ti i).toNat)
  | .cutLo m, x, i, _ => match x with | .slice a n c => .slice (if c = (ti i).toNat then a else a.map (·.add ((ti i).toNat * m))) (n - (ti i).toNat) (c - (ti i).toNat) | _ => undef
  | .cutHi _, x, i, _ => match x with | .slice a _ c => .slice a (ti i).toNat c | _ => undef
  | .bits op, x, y, _ => .int (tk x) (bitsI op (tk x) (ti x) (ti y))
  | .eqn k neg, x, y, _ => .bool (if neg then !(decide (nil? k x = some true) && decide (nil? k y = some true)) else (decide (nil? k x = some true) && decide (nil? k y = some true)))
  | .eqs neg _, x, y, _ => match x, y with | .agg a, .agg b => .bool (if neg then !eqL a.toList b.toList else eqL a.toList b.toList) | _, _ => undef
  | .idxP _ n, x, i, _ => match x with | .pointer (some a) => .pointer (some (a.add ((ti i).toNat * n))) | _ => undef
  | .idxR _ n ag, x, i, _ => match x with | .agg cs => if ag then .agg (cs.extract ((ti i).toNat * n) ((ti i).toNat * n + n)) else cs.getD ((ti i).toNat * n) undef | _ => undef
  | .mm mx, x, y, _ => .int (tk x) (if mx then (if ti x < ti y then ti y else ti x) else (if ti y < ti x then ti y else ti x))
  | .cutPL l n, x, i, _ => match x with | .pointer (some a) => .slice (some (if l = (ti i).toNat then a else a.add ((ti i).toNat * n))) (l - (ti i).toNat) (l - (ti i).toNat) | _ => undef
  | .cutPH l, x, i, _ => match x with | .pointer (some a) => .slice (some a) (ti i).toNat l | _ => undef
def s3 : Q3 → Value → Value → Value → H → Prop
  | .pick, c, _, _, _ => isBool c = true
  | .sub, x, i, j, _ => isStr x = true ∧ isInt i = true ∧ isInt j = true ∧ 0 ≤ ti i ∧ ti i ≤ ti j ∧ ti j ≤ (bl x).length
  | .cut _, x, i, j, _ => match x with | .slice _ _ c => isInt i = true ∧ isInt j = true ∧ 0 ≤ ti i ∧ ti i ≤ ti j ∧ ti j ≤ c | _ => False
  | .cutP l _, x, i, j, _ => match x with | .pointer (some ⟨_, _, none⟩) => isInt i = true ∧ isInt j = true ∧ 0 ≤ ti i ∧ ti i ≤ ti j ∧ ti j ≤ l | _ => False
def v3 : Q3 → Value → Value → Value → H → Value
  | .pick, c, a, b, _ => if tb c then a else b
  | .sub, x, i, j, _ => str (((bl x).take (ti j).toNat).drop (ti i).toNat)
  | .cut m, x, i, j, _ => match x with
    | .slice a _ c => .slice (if c = (ti i).toNat then a else a.map (·.add ((ti i).toNat * m))) ((ti j).toNat - (ti i).toNat) (c - (ti i).toNat)
    | _ => undef
  | .cutP l m, x, i, j, _ => match x with
    | .pointer (some a) => .slice (some (if l = (ti i).toNat then a else a.add ((ti i).toNat * m))) ((ti j).toNat - (ti i).toNat) (l - (ti i).toNat)
    | _ => undef
end Go.Ev

namespace Go.Ev
open BinOp

/-! ### Operations, sorted -/
inductive F where
  | call (f : FuncId) | box (t : TypeId) | alloc (t : TypeId) (zero : Array Value) | store (n : Nat)
  | bsl (e : TypeId) (sz len : Nat) (z : List Value) (ps : List Nat) | app (e : TypeId) (sz bytes : Nat) (z : List Value) | mks (e : TypeId) (sz bytes : Nat) (z : List Value)
  | callv | inv (tab : List (TypeId × FuncId)) | mkf (fn : Fn) (k : Nat) | b2s | s2b (e : TypeId) | mkm | look (d : TypeDesc) (z : Value) (ok : Bool) | lenm | mput (d : TypeDesc) | lookG (ks : List Kc) (z : Value) (ok : Bool) | mputG (ks : List Kc) | apps (e : TypeId) | dead | pnc
  deriving Inhabited
inductive K where
  | q1 (q : Q1) (x : Operand) | q2 (q : Q2) (x y : Operand) | q3 (q : Q3) (x y z : Operand)
  | bld (zero : Array Value) (parts : List (Nat × Nat × Operand))
  | asg (x : Operand) | ef (f : F) (xs : List Operand)
  deriving Inhabited

/-- The heap turns, and draws are made: nothing else. -/
structure Keep (w w' : World) : Prop where
  os : w'.os = w.os
  tape : w'.tape = w.tape
  output : w'.output = w.output
theorem Keep.refl (w : World) : Keep w w := ⟨rfl, rfl, rfl⟩
theorem Keep.trans {a b c : World} (h : Keep a b) (k : Keep b c) : Keep a c := ⟨k.os.trans h.os, k.tape.trans h.tape, k.output.trans h.output⟩

/-- A call, by heaps alone. -/
def HC (P : Program) (f : FuncId) (args : List Value) (h : H) (R : Ending → H → Prop) : Prop :=
  ∀ w : World, w.heap = h → Calls P f args.toArray w fun e w' => Keep w w' ∧ R e w'.heap
theorem HC.mono {P : Program} {f : FuncId} {args : List Value} {h : H} {R R' : Ending → H → Prop} (hc : HC P f args h R) (hr : ∀ e h', R e h' → R' e h') : HC P f args h R' :=
  fun w hw => (hc w hw).mono fun _ _ ⟨k, r⟩ => ⟨k, hr _ _ r⟩

def okCell : Value → Bool | .agg _ | .tuple _ => false | _ => true
def hsets (h : H) (b o : Nat) : List Value → H
  | [] => h
  | v :: r => hsets (hset h b o v) b (o + 1) r
def parts (v : Value) (z : Value → Prop) : Prop := z v

def callK (K : Value → H → Prop) (KP : List PanicEntry → H → Prop) : Ending → H → Prop
  | .returned v, h => K v h
  | .panicked c, h => KP c h
  | .outgrown, _ => False
/-- What is known of the functions that are called. -/
abbrev Ctr := FuncId → List Value → H → (Value → H → Prop) → (List PanicEntry → H → Prop) → Prop
/-- Is it a function with a text of its own? -/
def hasB (P : Program) (f : FuncId) : Bool := match P.funcs[f]? with | some fn => fn.body.isSome && fn.name != "runtime.NumGoroutine" | none => false
/-- A call of a function that the model answers for. -/
def HX (P : Program) (f : FuncId) (vs : List Value) (h : H) (K : Value → H → Prop) : Prop := ∀ w : World, w.heap = h → ∃ v w', (callFunc f vs.toArray).run P w = .ok (.value v) w' ∧ Keep w w' ∧ K v w'.heap
def HCX (P : Program) (f : FuncId) (vs : List Value) (h : H) (K : Value → H → Prop) (KP : List PanicEntry → H → Prop) : Prop := (hasB P f = true ∧ HC P f vs h (callK K KP)) ∨ (hasB P f = false ∧ HX P f vs h K)
theorem HCX.hc {P : Program} {f : FuncId} {vs : List Value} {h : H} {K : Value → H → Prop} {KP : List PanicEntry → H → Prop} (c : HCX P f vs h K KP) (hb : hasB P f = true) : HC P f vs h (callK K KP) := by
  rcases c with c | c
  · exact c.2
  · rw [hb] at c; cases c.1
theorem HCX.extern {P : Program} {f : FuncId} {fn : Func} {e : Array Value → Sem Value} {vs : List Value} {h : H} {K : Value → H → Prop} {KP : List PanicEntry → H → Prop} (hf : P.funcs[f]? = some fn) (hname : (fn.name == "runtime.NumGoroutine") = false)
    (hb : fn.body.isNone = true) (hn : Extern.findNext fn = none) (he : Extern.find fn = some e) (hr : ∀ w : World, w.heap = h → ∃ v w', (e vs.toArray).run P w = .ok v w' ∧ Keep w w' ∧ K v w'.heap) : HCX P f vs h K KP := by
  have h2 : fn.body = none := by simpa using hb
  refine .inr ⟨by simp [hasB, hf, h2], fun w hw => ?_⟩
  obtain ⟨v, w', h1, hk, hK⟩ := hr w hw
  exact ⟨v, w', by rw [run_callFunc_extern hf hname hb hn he, h1]; rfl, hk, hK⟩
def GOk (P : Program) (G : Ctr) : Prop := ∀ f vs h K KP, G f vs h K KP → HCX P f vs h K KP
/-- n times the cells z. -/
def reps (z : List Value) (n : Nat) : List Value := (List.range (n * z.length)).map fun i => z.getD (i % z.length) undef
def fillP (sz : Nat) : List Value → List (Nat × Value) → List Value
  | l, [] => l
  | l, (i, v) :: r => fillP sz (putv l.toArray (i * sz) v).toList r
def partsP (sz len : Nat) : List (Nat × Value) → Prop
  | [] => True
  | (i, v) :: r => v.cells.size = sz ∧ i < len ∧ partsP sz len r
/-- l: the k cells from a on. -/
def rowsP (h : H) (a : Option Addr) (k : Nat) (l : List Value) : Prop := (k = 0 ∧ l = []) ∨ match a with
  | none => l = []
  | some ⟨b, o, none⟩ => o + k ≤ hsz h b ∧ l = hvs h b o k
  | _ => False
/-- A write of the cells vs from place o of block b on. -/
def writeP (h : H) (b o : Nat) (vs : List Value) : Prop := o + vs.length ≤ hsz h b ∧ (o + vs.length ≤ (hfr h b).1 ∨ (hfr h b).2 ≤ o) ∧ vs.all okCell = true
def appP (e : TypeId) (sz bytes : Nat) (z : List Value) (a : Option Addr) (n c : Nat) (b : Option Addr) (m : Nat) (h : H) (K : Value → H → Prop) : Prop :=
  (a = none → n = 0 ∧ c = 0) ∧ (b = none → m = 0) ∧ n ≤ c ∧ (n + m) * bytes ≤ 140737488355328 ∧ ∃ olds news, rowsP h a (n * sz) olds ∧ rowsP h b (m * sz) news ∧
    (n + m ≤ c → match a with
      | none => K (.slice none (n + m) c) h
      | some ⟨bb, o, none⟩ => writeP h bb (o + n * sz) news ∧ K (.slice a (n + m) c) (hsets h bb (o + n * sz) news)
      | _ => False) ∧
    (c < n + m → ∀ cap, n + m ≤ cap → cap ≤ maxLen → K (.slice (some ⟨h.size, 0, none⟩) (n + m) cap) (h.push (.cells (olds ++ news ++ reps z (cap - (n + m))).toArray e)))
def tabGet : List (TypeId × FuncId) → TypeId → Option FuncId
  | [], _ => none
  | (u, f) :: r, t => if u = t then some f else tabGet r t
def byteV (c : UInt8) : Value := .int .u8 c.toNat
/-- The entries of a map's value. -/
def mapAt (h : H) (m : Value) (l : List MapEntry) : Prop := match m with
  | .map none => l = []
  | .map (some b) => ∃ a c, h[b]? = some (.map a c) ∧ l = a.toList
  | _ => False
def lookV (v : Value) (ok found : Bool) : Value := if ok then .tuple #[v, .bool found] else v
def fpre (G : Ctr) (f : F) (vs : List Value) (h : H) (K : Value → H → Prop) (KP : List PanicEntry → H → Prop) : Prop := match f, vs with
  | .call f, vs => G f vs h K KP
  | .box t, [v] => K (.pointer (some ⟨h.size, 0, none⟩)) (h.push (.cells v.cells t))
  | .alloc t z, [] => K (.pointer (some ⟨h.size, 0, none⟩)) (h.push (.cells z t))
  | .store n, [p, v] => match p with
    | .pointer (some ⟨b, o, none⟩) => v.cells.size = n ∧ o + n ≤ hsz h b ∧ (o + n ≤ (hfr h b).1 ∨ (hfr h b).2 ≤ o) ∧ v.cells.toList.all okCell = true ∧ K undef (hsets h b o v.cells.toList)
    | _ => False
  | .bsl e sz len z ps, vs => ps.length = vs.length ∧ partsP sz len (ps.zip vs) ∧ K (.slice (some ⟨h.size, 0, none⟩) len len) (h.push (.cells (fillP sz z (ps.zip vs)).toArray e))
  | .app e sz bytes z, [s, x] => match s, x with
    | .slice a n c, .slice b m _ => appP e sz bytes z a n c b m h K
    | _, _ => False
  | .mks e _ bytes z, [l, c] => isInt l = true ∧ isInt c = true ∧ 0 ≤ ti l ∧ ti l ≤ ti c ∧ ti c * bytes ≤ 140737488355328 ∧
      K (.slice (some ⟨h.size, 0, none⟩) (ti l).toNat (ti c).toNat) (h.push (.cells (reps z (ti c).toNat).toArray e))
  | .callv, f :: vs => match f with | .func (.func g) first cap => G g (first.toList ++ vs ++ cap.toList) h K KP | _ => False
  | .inv tab, r :: vs => match r with | .iface t v => (match tabGet tab t with | some g => G g (v :: vs) h K KP | none => False) | _ => False
  | .mkf fn k, vs => K (.func fn (vs.take k).toArray (vs.drop k).toArray) h
  | .b2s, [x] => match x with
    | .slice none _ _ => K (str []) h
    | .slice (some ⟨b, o, none⟩) n _ => o + n ≤ hsz h b ∧ ∃ l : List UInt8, hvs h b o n = l.map byteV ∧ K (str l) h
    | _ => False
  | .s2b e, [x] => isStr x = true ∧ (bl x).length ≤ 9223372036854775807 ∧ ∀ cap, (bl x).length ≤ cap → cap ≤ maxLen →
      K (.slice (some ⟨h.size, 0, none⟩) (bl x).length cap) (h.push (.cells ((bl x).map byteV ++ List.replicate (cap - (bl x).length) (Value.int .u8 0)).toArray e (cap, cap + 1)))
  | .mkm, _ => K (.map (some h.size)) (h.push (.map #[] 0))
  | .pnc, [x] => (match x with | .iface _ _ => KP [{ v := x, recovered := false }] h | _ => False)
  | .look d z ok, [m, k] => ∃ l, mapAt h m l ∧ MapKept.IsKey d k ∧ (∀ x ∈ l, MapKept.IsKey d x.key) ∧ (∀ e ∈ l, e.key = k → K (lookV e.val ok true) h) ∧ ((∀ e ∈ l, e.key ≠ k) → K (lookV z ok false) h)
  | .lenm, [m] => ∃ l, mapAt h m l ∧ K (.int .i64 l.length) h
  | .mput d, [m, k, v] => ∃ b a c, m = .map (some b) ∧ h[b]? = some (.map a c) ∧ MapKept.IsKey d k ∧ (∀ x ∈ a.toList, MapKept.IsKey d x.key) ∧
      (∀ (i : Nat) (e : MapEntry), a[i]? = some e → e.key = k → K undef (h.setIfInBounds b (.map (a.modify i fun e => { e with key := k, val := v }) c))) ∧
      ((∀ e ∈ a.toList, e.key ≠ k) → K undef (h.setIfInBounds b (.map (a.push { key := k, val := v, born := c }) (c + 1))))
  | .lookG ks z ok, [m, k] => ∃ l, mapAt h m l ∧ keyG ks k = true ∧ (∀ x ∈ l, keyG ks x.key = true) ∧ (∀ e ∈ l, e.key = k → K (lookV e.val ok true) h) ∧ ((∀ e ∈ l, e.key ≠ k) → K (lookV z ok false) h)
  | .mputG ks, [m, k, v] => ∃ b a c, m = .map (some b) ∧ h[b]? = some (.map a c) ∧ keyG ks k = true ∧ (∀ x ∈ a.toList, keyG ks x.key = true) ∧
      (∀ (i : Nat) (e : MapEntry), a[i]? = some e → e.key = k → K undef (h.setIfInBounds b (.map (a.modify i fun e => { e with key := k, val := v }) c))) ∧
      ((∀ e ∈ a.toList, e.key ≠ k) → K undef (h.setIfInBounds b (.map (a.push { key := k, val := v, born := c }) (c + 1))))
  | .apps e, [s, x] => match s with
    | .slice a n c => isStr x = true ∧ (a = none → n = 0 ∧ c = 0) ∧ n ≤ c ∧ n + (bl x).length ≤ 140737488355328 ∧ ∃ olds, rowsP h a n olds ∧
      (n + (bl x).length ≤ c → match a with
        | none => K (.slice none n c) h
        | some ⟨bb, o, none⟩ => writeP h bb (o + n) ((bl x).map byteV) ∧ K (.slice a (n + (bl x).length) c) (hsets h bb (o + n) ((bl x).map byteV))
        | _ => False) ∧
      (c < n + (bl x).length → ∀ cap, n + (bl x).length ≤ cap → cap ≤ maxLen → K (.slice (some ⟨h.size, 0, none⟩) (n + (bl x).length) cap) (h.push (.cells (olds ++ (bl x).map byteV ++ List.replicate (cap - (n + (bl x).length)) (Value.int .u8 0)).toArray e)))
    | _ => False
  | _, _ => False

/-- What a kind of operation says of the operation itself. -/
def Says (P : Program) (o : Oper) : K → Prop
  | .q1 q x => ∀ (ρ : Operand → Value) (w : World), s1 q (ρ x) w.heap → (execOp ρ o).run P w = .ok (.value (v1 q (ρ x) w.heap)) w
  | .q2 q x y => ∀ (ρ : Operand → Value) (w : World), s2 q (ρ x) (ρ y) w.heap → (execOp ρ o).run P w = .ok (.value (v2 q (ρ x) (ρ y) w.heap)) w
  | .q3 q x y z => ∀ (ρ : Operand → Value) (w : World), s3 q (ρ x) (ρ y) (ρ z) w.heap → (execOp ρ o).run P w = .ok (.value (v3 q (ρ x) (ρ y) (ρ z) w.heap)) w
  | .bld z ps => ∀ (ρ : Operand → Value) (w : World), (∀ p ∈ ps, (ρ p.2.2).cells.size = p.2.1 ∧ p.1 + p.2.1 ≤ z.size) →
      (execOp ρ o).run P w = .ok (.value (.agg (ps.foldl (fun cs p => putv cs p.1 (ρ p.2.2)) z))) w
  | .asg x => ∀ (ρ : Operand → Value) (w : World), (execOp ρ o).run P w = .ok (.value (ρ x)) w
  | .ef f xs => ∀ (G : Ctr), GOk P G → ∀ (a : Act) (w : World) (next : Act → World → Prop) (Q : Exit → Act → World → Prop) (K : Value → H → Prop) (KP : List PanicEntry → H → Prop),
      fpre G f (xs.map a.eval) w.heap K KP → (∀ v w', Keep w w' → K v w'.heap → next (a.put o.dst v) w') → (∀ c w', Keep w w' → KP c w'.heap → Q (.panic c) a w') →
      o.wp P a w next Q

def sizeT (P : Program) (t : TypeId) : Option Nat := (P.info? t).map (·.size)
def aggT (P : Program) (t : TypeId) : Option Bool := (P.underlying t).map fun | .struct _ | .array _ _ => true | _ => false
def zeroT (P : Program) (t : TypeId) : Option (Array Value) := (P.info? t).bind fun i => i.zero.map (·.cells)
def fieldT (P : Program) (s : TypeId) (f : Nat) : Option Field := match P.underlying s with
  | some (.struct fs) => fs[f]?
  | _ => none
inductive Kd where | int | str | bool | slice (n : Nat) | other
def kindT (P : Program) (t : TypeId) : Kd := match P.underlying t with
  | some (.int _) => .int
  | some .string => .str
  | some .bool => .bool
  | some (.slice e) => match sizeT P e with | some n => .slice n | none => .other
  | _ => .other

section
variable {P : Program} {ρ : Operand → Value} {w : World} {t : TypeId} {d : TypeDesc} {n : Nat} {b : Bool}
theorem und (h : P.underlying t = some d) : (underlying t).run P w = .ok d w := by simp [underlying, h]
theorem siz (h : sizeT P t = some n) : (sizeOf t).run P w = .ok n w := by
  unfold sizeT at h
  cases hi : P.info? t with
  | none => simp [hi] at h
  | some i => simp [hi] at h; simp [sizeOf, typeInfo, hi, h]
theorem agg (h : aggT P t = some b) : (isAgg t).run P w = .ok b w := by
  unfold aggT at h
  cases hi : P.underlying t with
  | none => simp [hi] at h
  | some d => simp [hi] at h; subst h; cases d <;> simp [isAgg, und hi]
theorem fieldT_spec {s : TypeId} {f : Nat} {fl : Field} (h : fieldT P s f = some fl) : ∃ fs, P.underlying s = some (.struct fs) ∧ fs[f]? = some fl := by
  unfold fieldT at h
  split at h
  · rename_i fs hu; exact ⟨fs, hu, h⟩
  · cases h
theorem kind_int (h : kindT P t = .int) : ∃ k, P.underlying t = some (.int k) := by
  unfold kindT at h
  split at h <;> try (cases h; done)
  · rename_i k hu; exact ⟨k, hu⟩
  · split at h <;> cases h
theorem kind_str (h : kindT P t = .str) : P.underlying t = some .string := by
  unfold kindT at h
  split at h <;> try (cases h; done)
  · assumption
  · split at h <;> cases h
theorem kind_bool (h : kindT P t = .bool) : P.underlying t = some .bool := by
  unfold kindT at h
  split at h <;> try (cases h; done)
  · assumption
  · split at h <;> cases h
theorem kind_slice (h : kindT P t = .slice n) : ∃ e, P.underlying t = some (.slice e) ∧ sizeT P e = some n := by
  unfold kindT at h
  split at h <;> try (cases h; done)
  rename_i e hu
  split at h <;> cases h
  rename_i hs
  exact ⟨e, hu, hs⟩

mutual
def flatT (P : Program) : Nat → TypeId → Option (List Kc)
  | 0, _ => none
  | d + 1, t => match P.underlying t with
    | some (.int k) => some [.int k]
    | some .string => some [.str]
    | some .bool => some [.bool]
    | some (.struct fs) => if P.stoodInHeld t then none else flatF P d 0 fs.toList
    | _ => none
def flatF (P : Program) : Nat → Nat → List Field → Option (List Kc)
  | _, _, [] => some []
  | 0, _, _ :: _ => none
  | d + 1, o, f :: fs => match flatT P d f.type, aggT P f.type, sizeT P f.type with
    | some l, some a, some n => if f.offset = o ∧ f.name ≠ "_" ∧ (if a then n = l.length else l.length = 1) then (flatF P d (o + l.length) fs).map (l ++ ·) else none
    | _, _, _ => none
end
def trMove (x : Operand) : Option K := some (.q1 .id x)
def trPick (c a b : Operand) : Option K := some (.q3 .pick c a b)
def trNil (x : Operand) : Option K := some (.q1 .nilck x)
def trFieldAddr (P : Program) (s : TypeId) (x : Operand) (f : Nat) : Option K :=
  (fieldT P s f).bind fun fl => match sizeT P fl.type with
    | some (_ + 1) => some (.q1 (.fld fl.offset) x)
    | _ => none
def trLoad (P : Program) (t : TypeId) (x : Operand) : Option K := match aggT P t, sizeT P t with
  | some true, some n => some (.q1 (.ldn n) x)
  | some false, some _ => some (.q1 .ld1 x)
  | _, _ => none
def binOk : BinOp → Bool | .add | .sub | .mul | .quo | .rem | .eql | .neq | .lss | .leq | .gtr | .geq => true | _ => false
def trBin (P : Program) (op : BinOp) (t : TypeId) (x y : Operand) : Option K := match kindT P t with
  | .int | .str => if binOk op then some (.q2 (.bin op) x y) else none
  | .bool => match op with
    | .eql => some (.q2 (.eqb false) x y)
    | .neq => some (.q2 (.eqb true) x y)
    | _ => none
  | _ => none
def knT (P : Program) (t : TypeId) : Option Kn := match P.underlying t with
  | some (.pointer _) => some .ptr | some (.slice _) => some .sl | some (.map _ _) => some .map | some (.func _ _ _) => some .func | some (.interface _) => some .iface | _ => none
def isC : Operand → Bool | .const _ => true | _ => false
def trBin2 (P : Program) (op : BinOp) (t : TypeId) (x y : Operand) : Option K := match kindT P t with
  | .int => if isBits op then some (.q2 (.bits op) x y) else none
  | .str => none
  | .bool => none
  | _ => match op with
    | .eql => trEq false
    | .neq => trEq true
    | _ => none
where
  trEq (neg : Bool) : Option K := match knT P t with
    | some .iface => if isC x || isC y then some (.q2 (.eqn .iface neg) x y) else none
    | some k => some (.q2 (.eqn k neg) x y)
    | none => match P.underlying t, flatT P 20 t with
      | some (.struct _), some ks => if P.eqGuardType P.depth t then none else some (.q2 (.eqs neg ks) x y)
      | _, _ => none
def trUn (op : UnOp) (x : Operand) : Option K := match op with
  | .not => some (.q1 .not x)
  | .neg => some (.q1 .neg x)
  | .xor => some (.q1 .bnot x)
  | _ => none
def trConv (P : Program) (s d : TypeId) (x : Operand) : Option K := match P.underlying s, P.underlying d with
  | some (.int _), some (.int k) => some (.q1 (.conv k) x)
  | some (.slice e), some .string => (match P.underlying e with | some (.int .u8) => some (.ef .b2s [x]) | _ => none)
  | some .string, some (.slice e) => (match P.underlying e with | some (.int .u8) => some (.ef (.s2b e) [x]) | _ => none)
  | _, _ => none
def trBsl (P : Program) (t : TypeId) (len : Nat) (ps : Array (Nat × Operand)) : Option K := match P.underlying t with
  | some (.slice e) => match P.info? e with
    | some i => match i.zero with
      | some z => if z.cells.size = i.size ∧ len * i.size ≤ 16777216 then some (.ef (.bsl e i.size len (reps z.cells.toList len) (ps.toList.map (·.1))) (ps.toList.map (·.2))) else none
      | none => none
    | none => none
  | _ => none
def trApp (P : Program) (t u : TypeId) (x y : Operand) : Option K := match P.underlying t, P.underlying u with
  | some (.slice e), some (.slice _) => match P.info? e with
    | some i => match i.zero with
      | some z => if z.cells.size = i.size ∧ 0 < i.bytes ∧ t = u then some (.ef (.app e i.size i.bytes z.cells.toList) [x, y]) else none
      | none => none
    | none => none
  | some (.slice e), some .string => match P.info? e with
    | some i => match i.zero with
      | some (.int .u8 0) => if i.size = 1 ∧ i.bytes = 1 then some (.ef (.apps e) [x, y]) else none
      | _ => none
    | none => none
  | _, _ => none
def trMks (P : Program) (t : TypeId) (l c : Operand) : Option K := match P.underlying t with
  | some (.slice e) => match P.info? e with
    | some i => match i.zero with
      | some z => if z.cells.size = i.size ∧ 0 < i.bytes then some (.ef (.mks e i.size i.bytes z.cells.toList) [l, c]) else none
      | none => none
    | none => none
  | _ => none
def keyD : TypeDesc → Bool | .int _ | .string | .bool => true | _ => false
def kcT (P : Program) (t : TypeId) : Option Kc := match P.underlying t with
  | some (.int k) => some (.int k)
  | some .string => some .str
  | some .bool => some .bool
  | _ => none
def wideK (P : Program) (k : TypeId) : Bool := match P.underlying k with | some (.array _ _) | some (.struct _) => true | _ => false
/-- The cells of a key type that is a struct or an array of plain cells. -/
def keyK (P : Program) (k : TypeId) : Option (List Kc) :=
  if wideK P k = true ∧ P.keyType k = true ∧ P.keyTypeAt 3 k = true ∧ P.tiled 3 k = true ∧ 1 ≤ P.types.size then
    match P.underlying k with
    | some (.struct fs) => if fs.toList.map (·.offset) = List.range fs.toList.length ∧ P.cellsOf k = fs.toList.length ∧ fs.toList.all (fun f => decide (P.cellsOf f.type = 1)) = true ∧ fs.all (·.name != "_") = true then fs.toList.mapM (fun f => kcT P f.type) else none
    | some (.array n e) => if P.cellsOf k = n ∧ P.cellsOf e = 1 then (kcT P e).map (List.replicate n) else none
    | _ => none
  else none
def trLook (P : Program) (t : TypeId) (x i : Operand) (ok : Bool) : Option K := match P.underlying t with
  | some (.map kt et) => match P.underlying kt, (P.info? et).bind (·.zero) with
    | some d, some z => if keyD d then some (.ef (.look d z ok) [x, i]) else (keyK P kt).map fun ks => .ef (.lookG ks z ok) [x, i]
    | _, _ => none
  | _ => none
def trPut (P : Program) (t : TypeId) (m k v : Operand) : Option K := match P.underlying t with
  | some (.map kt _) => match P.underlying kt with
    | some d => if keyD d then some (.ef (.mput d) [m, k, v]) else (keyK P kt).map fun ks => .ef (.mputG ks) [m, k, v]
    | none => none
  | _ => none
def trMki (P : Program) (t : TypeId) (x : Operand) : Option K := match P.underlying t with
  | some (.interface _) => none
  | some _ => some (.q1 (.mki t) x)
  | none => none
def methT (P : Program) (t : TypeId) (name : String) : Option FuncId := match P.info? t with
  | some i => match i.methods.find? (·.name == name) with
    | some m => if m.path.isEmpty then (match m.func with
      | some (f, p) => (match P.underlying t with
        | some (.pointer _) => if p then some f else none
        | some _ => if p then none else some f
        | none => none)
      | none => none) else none
    | none => none
  | none => none
def tabM (P : Program) (name : String) : List (TypeId × FuncId) := (List.range P.types.size).filterMap fun t => (methT P t name).map (t, ·)
def trField (P : Program) (t : TypeId) (x : Operand) (f : Nat) : Option K :=
  (fieldT P t f).bind fun fl => match aggT P fl.type, sizeT P fl.type with
    | some true, some n => some (.q1 (.partn fl.offset n) x)
    | some false, some _ => some (.q1 (.part fl.offset) x)
    | _, _ => none
def arrT (P : Program) (t : TypeId) : Option (Nat × TypeId × Nat × Bool) := match P.underlying t with
  | some (.array n e) => (match sizeT P e, aggT P e with | some sz, some a => some (n, e, sz, a) | _, _ => none)
  | _ => none
def trIndex (P : Program) (t : TypeId) (x i : Operand) : Option K := match kindT P t with
  | .str => some (.q2 .idxS x i)
  | _ => match arrT P t with
    | some (n, _, sz, a) => if a || sz == 1 then some (.q2 (.idxR n sz a) x i) else none
    | none => none
def trIndexAddr (P : Program) (t : TypeId) (x i : Operand) : Option K := match kindT P t with
  | .slice n => some (.q2 (.idxA n) x i)
  | _ => match arrT P t with
    | some (n, _, sz, _) => some (.q2 (.idxP n sz) x i)
    | none => none
def trSlice (P : Program) (t : TypeId) (x : Operand) (lo hi mx : Option Operand) : Option K := match kindT P t, mx with
  | .str, none => match lo, hi with
    | some l, some h => some (.q3 .sub x l h)
    | some l, none => some (.q2 .subLo x l)
    | none, some h => some (.q2 .subHi x h)
    | none, none => none
  | .slice n, none => match lo, hi with
    | some l, some h => some (.q3 (.cut n) x l h)
    | some l, none => some (.q2 (.cutLo n) x l)
    | none, some h => some (.q2 (.cutHi n) x h)
    | none, none => none
  | _, none => match arrT P t with
    | some (n, _, sz, _) => match lo, hi with
      | some l, some h => some (.q3 (.cutP n sz) x l h)
      | some l, none => some (.q2 (.cutPL n sz) x l)
      | none, some h => some (.q2 (.cutPH n) x h)
      | none, none => some (.q1 (.arr n) x)
    | none => none
  | _, _ => none
def trBuild (P : Program) (t : TypeId) (parts : Array (Nat × Operand)) : Option K := match P.info? t, P.underlying t with
  | some it, some (.struct fields) => match it.zero, fields.toList.mapM (fun f => (P.info? f.type).map fun i => (f.offset, i.size)) with
    | some z, some places => if parts.toList.all (fun p => (places.toArray[p.1]?).isSome) then
        some (.bld z.cells (parts.toList.map fun p => (((places.toArray[p.1]?).getD (0, 0)).1, ((places.toArray[p.1]?).getD (0, 0)).2, p.2))) else none
    | _, _ => none
  | some it, some (.array _ e) => match it.zero, P.info? e with
    | some z, some ie => some (.bld z.cells (parts.toList.map fun p => (p.1 * ie.size, ie.size, p.2)))
    | _, _ => none
  | _, _ => none
def trCall (P : Program) (c : Call) : Option K := match c.callee with
  | .builtin .len => match c.args.toList, c.argTypes.toList with
    | [x], [t] => match kindT P t with
      | .str => some (.q1 .lens x)
      | .slice _ => some (.q1 .len x)
      | _ => match P.underlying t with
        | some (.map _ _) => some (.ef .lenm [x])
        | _ => none
    | _, _ => none
  | .builtin .cap => match c.args.toList, c.argTypes.toList with
    | [x], [t] => match kindT P t with
      | .slice _ => some (.q1 .cap x)
      | _ => none
    | _, _ => none
  | .builtin .append => match c.args.toList, c.argTypes.toList with
    | [x, y], [t, u] => trApp P t u x y
    | _, _ => none
  | .builtin .min => match c.args.toList with
    | [x, y] => some (.q2 (.mm false) x y)
    | _ => none
  | .builtin .max => match c.args.toList with
    | [x, y] => some (.q2 (.mm true) x y)
    | _ => none
  | .value (.func f) => some (.ef (.call f) c.args.toList)
  | .value f => some (.ef .callv (f :: c.args.toList))
  | .invoke r name => some (.ef (.inv (tabM P name)) (r :: c.args.toList))
  | _ => none
def trAlloc (P : Program) (t : TypeId) : Option K := (zeroT P t).map fun z => .ef (.alloc t z) []
def trStore (P : Program) (t : TypeId) (a x : Operand) : Option K := (sizeT P t).map fun n => .ef (.store n) [a, x]

/-- What is not known must not be reached. -/
def orDead : Option K → Option K | some k => some k | none => some (.ef .dead [])
/-- What an operation is. -/
def tr (P : Program) (o : Oper) : Option K := match o.op with
  | .move x => trMove x
  | .assign x => some (.asg x)
  | .pick c a b => trPick c a b
  | .nilCheck x => trNil x
  | .fieldAddr s x f => orDead (trFieldAddr P s x f)
  | .load t x => orDead (trLoad P t x)
  | .binOp op t x y _ => (match trBin P op t x y with | some k => some k | none => orDead (trBin2 P op t x y))
  | .unOp op _ x => orDead (trUn op x)
  | .convert s d x => orDead (trConv P s d x)
  | .extract x i => some (.q1 (.ext i) x)
  | .field t x f => orDead (trField P t x f)
  | .index t x i => orDead (trIndex P t x i)
  | .indexAddr t x i => orDead (trIndexAddr P t x i)
  | .slice t x lo hi mx => orDead (trSlice P t x lo hi mx)
  | .build t ps => orDead (trBuild P t ps)
  | .call c => orDead (trCall P c)
  | .box t x => some (.ef (.box t) [x])
  | .alloc t => orDead (trAlloc P t)
  | .store t a x => orDead (trStore P t a x)
  | .buildSlice t n ps => orDead (trBsl P t n ps)
  | .makeSlice t l c => orDead (trMks P t l c)
  | .makeInterface t x => orDead (trMki P t x)
  | .makeFunc fn first cap => some (.ef (.mkf fn first.size) (first.toList ++ cap.toList))
  | .makeMap _ none => some (.ef .mkm [])
  | .panic x => some (.ef .pnc [x])
  | .lookup t x i ok => orDead (trLook P t x i ok)
  | .mapUpdate t m k v => orDead (trPut P t m k v)
  | .insert t m k v => orDead (trPut P t m k v)
  | _ => some (.ef .dead [])
end
end Go.Ev

namespace Go.Ev
section
variable {P : Program} {o : Oper} {k : K} {t s d : TypeId} {x y z : Operand}

theorem exec_op {ρ : Operand → Value} {op : Op} (ho : o.op = op) : execOp ρ o = execOp ρ { o with op := op } := by subst ho; rfl

theorem says_move (ho : o.op = .move x) (h : trMove x = some k) : Says P o k := by
  cases h; intro ρ w _; rw [exec_op ho]; rfl
theorem says_asg (ho : o.op = .assign x) : Says P o (.asg x) := by
  intro ρ w; rw [exec_op ho]; rfl
theorem says_pick (ho : o.op = .pick x y z) (h : trPick x y z = some k) : Says P o k := by
  cases h; intro ρ w hs; rw [exec_op ho]
  cases hx : ρ x <;> simp [s3, isBool, hx] at hs
  rename_i b
  cases b <;> simp [execOp, hx, asBool, v3, tb]
theorem says_nil (ho : o.op = .nilCheck x) (h : trNil x = some k) : Says P o k := by
  cases h; intro ρ w hs; rw [exec_op ho]
  cases hx : ρ x <;> simp only [hx, s1] at hs
  rename_i p
  cases p <;> simp_all [execOp, v1]
theorem says_fieldAddr {f : Nat} (ho : o.op = .fieldAddr s x f) (h : trFieldAddr P s x f = some k) : Says P o k := by
  unfold trFieldAddr at h
  cases hf : fieldT P s f with
  | none => simp [hf] at h
  | some fl =>
    simp only [hf, Option.bind_some] at h
    split at h <;> try (cases h; done)
    rename_i n hn
    cases h
    intro ρ w hs
    rw [exec_op ho]
    obtain ⟨fs, h1, h2⟩ := fieldT_spec hf
    cases hx : ρ x <;> simp only [hx, s1] at hs
    rename_i p
    cases p with
    | none => simp at hs
    | some a => simp [execOp, hx, v1, Instr.fieldAt, und h1, h2, Instr.sureAddr, fieldPlace, siz hn]
theorem add0 (b o n : Nat) : Addr.add ⟨b, o, none⟩ n = ⟨b, o + n, none⟩ := Addr.add_lit b o n
theorem says_load (ho : o.op = .load t x) (h : trLoad P t x = some k) : Says P o k := by
  unfold trLoad at h
  split at h <;> try (cases h; done)
  · rename_i n h1 h2
    cases h
    intro ρ w hs
    rw [exec_op ho]
    simp only [s1] at hs
    split at hs <;> try (exact hs.elim)
    rename_i b o hx
    have hl := run_loadCells (P := P) (w := w) ⟨b, o, none⟩ n (fun j => hv w.heap b (o + j)) (fun j hj => by rw [add0, cell_hc]; exact hc_some (by omega))
    simp only [execOp, hx, v1, Instr.loadAt, Instr.sureAddr, loadVar, Sem.run_bind, Sem.run_pure, Result.andThen_ok, agg h1, siz h2, if_true, hl]
    rfl
  · rename_i n h1 h2
    cases h
    intro ρ w hs
    rw [exec_op ho]
    simp only [s1] at hs
    split at hs <;> try (exact hs.elim)
    rename_i b o hx
    simp [execOp, hx, v1, Instr.loadAt, Instr.sureAddr, loadVar, agg h1, cell_hc, hc_some hs]
theorem says_un {op : UnOp} (ho : o.op = .unOp op t x) (h : trUn op x = some k) : Says P o k := by
  unfold trUn at h
  split at h <;> try (cases h; done)
  · cases h; intro ρ w hs; rw [exec_op ho]
    cases hx : ρ x <;> simp [hx, s1, isBool] at hs
    simp [execOp, hx, v1, Op.unary, tb]
  · cases h; intro ρ w hs; rw [exec_op ho]
    cases hx : ρ x <;> simp [hx, s1, isInt] at hs
    simp [execOp, hx, v1, Op.unary, ti, tk, Op.intArith]
  · cases h; intro ρ w hs; rw [exec_op ho]
    cases hx : ρ x <;> simp [hx, s1, isInt] at hs
    simp only [execOp, hx, v1, Op.unary, ti, tk, Op.intBits, bitsI]; rfl
theorem upon_value {a : Act} {w w' : World} {next : Act → World → Prop} {Q : Exit → Act → World → Prop} {v : Value} (h : (execOp a.eval o).run P w = .ok (.value v) w') (hn : next (a.put o.dst v) w') : o.wp P a w next Q := by
  unfold Oper.wp; rw [h]; exact hn
theorem push_bytes : ∀ (l : List UInt8) (s : ByteArray), (l.map fun c => (c.toNat : Int)).foldl (fun (r : ByteArray) n => r.push (UInt8.ofNat n.toNat)) s = ⟨(s.data.toList ++ l).toArray⟩
  | [], s => by simp
  | c :: l, s => by
    simp only [List.map_cons, List.foldl_cons]
    rw [push_bytes l]
    simp
theorem says_conv (ho : o.op = .convert s d x) (h : trConv P s d x = some k) : Says P o k := by
  unfold trConv at h
  split at h <;> try (cases h; done)
  · rename_i k' k h1 h2
    cases h; intro ρ w hs; rw [exec_op ho]
    cases hx : ρ x <;> simp [hx, s1, isInt] at hs
    simp [execOp, hx, v1, convert, und h1, und h2, Conv.intToInt, ti]
  · rename_i e h1 h2
    split at h <;> try (cases h; done)
    rename_i h3
    cases h
    intro G hG a w next Q K KP hf hn _
    simp only [List.map_cons, List.map_nil, fpre] at hf
    have hc : ∀ b n c, (convert s d (.slice b n c)).run P w = (Conv.bytesToString (.slice b n c)).run P w := fun b n c => run_convert_bytes_string w s d e b n c h1 h3 h2
    split at hf <;> try (exact hf.elim)
    · rename_i n c hx
      refine upon_value (w' := w) (v := str []) ?_ (hn _ _ (.refl w) hf)
      rw [exec_op ho]
      simp only [execOp, hx, Sem.run_bind, hc]
      rfl
    · rename_i b o' n c hx
      obtain ⟨h4, l, h5, hK⟩ := hf
      refine upon_value (w' := w) (v := str l) ?_ (hn _ _ (.refl w) hK)
      rw [exec_op ho]
      have hl := run_loadCells (P := P) (w := w) ⟨b, o', none⟩ n (fun j => hv w.heap b (o' + j)) (fun j hj => by rw [Addr.add_lit, cell_hc]; exact hc_some (by omega))
      have hl2 : (loadCells ⟨b, o', none⟩ n).run P w = .ok ((l.map fun c => (c.toNat : Int)).map (Value.int .u8)).toArray w := by
        rw [hl]; congr 2; unfold hvs at h5; rw [h5, List.map_map]; rfl
      simp only [execOp, hx, Sem.run_bind, hc, run_bytesToString w _ n c _ hl2, push_bytes]
      rfl
  · rename_i e h1 h2
    split at h <;> try (cases h; done)
    rename_i h3
    cases h
    intro G hG a w next Q K KP hf hn _
    simp only [List.map_cons, List.map_nil, fpre] at hf
    obtain ⟨hs, hl, hK⟩ := hf
    cases hx : a.eval x <;> simp [hx, isStr] at hs
    rename_i s'
    have hz : (bl (Value.string s')).length = s'.size := by show s'.data.toList.length = s'.size; rw [Array.length_toList]; rfl
    rw [hx, hz] at hK
    rw [hx, hz] at hl
    have hr := run_bytes_of_string (P := P) w s d e s' h1 h2 h3
    have hK' := hK (grownCap w s'.size 0 e) (grownCap_ge w s'.size 0 e) (grownCap_le_maxLen w s'.size 0 e (Nat.le_trans hl (by decide)))
    have hex : (execOp a.eval o).run P w = .ok (.value (.slice (some ⟨w.heap.size, 0, none⟩) s'.size (grownCap w s'.size 0 e))) (w.drew.alloc (.cells (bytesRow s' (grownCap w s'.size 0 e)) e ((bytesRow s' (grownCap w s'.size 0 e)).size, (bytesRow s' (grownCap w s'.size 0 e)).size + 1))) := by
      rw [exec_op ho]
      simp only [execOp, hx, Sem.run_bind, hr]
      rfl
    refine upon_value hex (hn _ _ ⟨rfl, rfl, rfl⟩ ?_)
    · have e1 : bytesRow s' (grownCap w s'.size 0 e) = (((bl (Value.string s')).map byteV) ++ List.replicate (grownCap w s'.size 0 e - s'.size) (Value.int .u8 0)).toArray := by
        unfold bytesRow
        apply Array.toList_inj.1
        simp [bl, byteV]
      have e2 : (bytesRow s' (grownCap w s'.size 0 e)).size = grownCap w s'.size 0 e := by
        rw [e1, List.size_toArray, List.length_append, List.length_map, hz, List.length_replicate]
        have := grownCap_ge w s'.size 0 e
        omega
      show K _ (w.heap.push (.cells (bytesRow s' (grownCap w s'.size 0 e)) e ((bytesRow s' (grownCap w s'.size 0 e)).size, (bytesRow s' (grownCap w s'.size 0 e)).size + 1)))
      rw [e2, e1]; exact hK'
theorem says_ext {i : Nat} (ho : o.op = .extract x i) : Says P o (.q1 (.ext i) x) := by
  intro ρ w hs; rw [exec_op ho]
  cases hx : ρ x <;> simp only [hx, s1] at hs
  simp [execOp, hx, v1, Instr.extract, hs]
theorem says_field {f : Nat} (ho : o.op = .field t x f) (h : trField P t x f = some k) : Says P o k := by
  unfold trField at h
  cases hf : fieldT P t f with
  | none => simp [hf] at h
  | some fl =>
    simp only [hf, Option.bind_some] at h
    obtain ⟨fs, h1, h2⟩ := fieldT_spec hf
    split at h <;> try (cases h; done)
    · rename_i n h3 h4
      cases h; intro ρ w hs; rw [exec_op ho]
      cases hx : ρ x <;> simp only [hx, s1] at hs
      simp [execOp, hx, v1, Instr.field, und h1, h2, part, agg h3, siz h4, asAgg]
    · rename_i n h3 h4
      cases h; intro ρ w hs; rw [exec_op ho]
      cases hx : ρ x <;> simp only [hx, s1] at hs
      simp [execOp, hx, v1, Instr.field, und h1, h2, part, agg h3, asAgg, hs]
theorem bl_beq (a b : ByteArray) : (a.toList == b.toList) = decide (a.data.toList = b.data.toList) := by
  rw [Lib.toList_data, Lib.toList_data]; exact Bool.eq_iff_iff.2 (by simp)
theorem says_bin {op : BinOp} {yt : TypeId} (ho : o.op = .binOp op t x y yt) (h : trBin P op t x y = some k) : Says P o k := by
  unfold trBin at h
  have key : binOk op = true → Says P o (.q2 (.bin op) x y) := by
    intro hok ρ w hs
    rw [exec_op ho]
    simp only [s2] at hs
    split at hs <;> try (exact hs.elim)
    · rename_i k' a hx
      obtain ⟨h1, h2, h3, h4⟩ := hs
      cases hy : ρ y <;> simp [hy, isInt] at h1
      rename_i k2 b
      simp only [hy, tk] at h2; subst h2
      simp only [execOp, hx, hy, v2]
      cases op <;> simp_all [binOk, eqGuard, binOp, Op.intArith, Op.intDiv, Op.intCmp, isArith, arith, icmp, ti] <;> first | rfl | exact Bool.eq_iff_iff.2 (by simp)
    · rename_i a hx
      obtain ⟨h1, h2⟩ := hs
      cases hy : ρ y <;> simp [hy, isStr] at h1
      rename_i b
      simp only [execOp, hx, hy, v2]
      cases op <;> simp_all [binOk, eqGuard, binOp, Op.stringOp, isCmp, scmp, bl, bl_beq]
      case add =>
        rw [if_neg (by omega)]
        simp only [str, Result.ok.injEq, Next.value.injEq, Value.string.injEq, and_true]
        obtain ⟨⟨a⟩⟩ := a; obtain ⟨⟨b⟩⟩ := b
        rfl
      all_goals simp only [Lib.toList_data]
  split at h
  · split at h
    · rename_i hk hb; cases h; exact key hb
    · cases h
  · split at h
    · rename_i hk hb; cases h; exact key hb
    · cases h
  · rename_i hk
    have hu := kind_bool hk
    split at h <;> try (cases h; done)
    · cases h; intro ρ w hs; rw [exec_op ho]
      obtain ⟨h1, h2⟩ := hs
      cases hx : ρ x <;> simp [hx, isBool] at h1
      cases hy : ρ y <;> simp [hy, isBool] at h2
      rename_i b1 b2
      cases b1 <;> cases b2 <;> simp [execOp, hx, hy, v2, eqGuard, binOp, run_equal_bool w t _ _ hu, tb]
    · cases h; intro ρ w hs; rw [exec_op ho]
      obtain ⟨h1, h2⟩ := hs
      cases hx : ρ x <;> simp [hx, isBool] at h1
      cases hy : ρ y <;> simp [hy, isBool] at h2
      rename_i b1 b2
      cases b1 <;> cases b2 <;> simp [execOp, hx, hy, v2, eqGuard, binOp, run_equal_bool w t _ _ hu, tb]
  · cases h

theorem getElem?_bl (s : ByteArray) (i : Nat) (hi : i < s.size) : s[i]? = some (s.data.toList.getD i 0) := by
  obtain ⟨⟨l⟩⟩ := s
  have : i < l.length := hi
  show (if h : i < (⟨⟨l⟩⟩ : ByteArray).size then some _ else none) = _
  rw [dif_pos hi]
  simp [List.getD_eq_getElem?_getD, List.getElem?_eq_getElem this]
  rfl
theorem arr_spec {n sz : Nat} {e : TypeId} {a : Bool} (h : arrT P t = some (n, e, sz, a)) : P.underlying t = some (.array n e) ∧ sizeT P e = some sz ∧ aggT P e = some a := by
  unfold arrT at h
  split at h <;> try (cases h; done)
  rename_i n' e' hu
  split at h <;> try (cases h; done)
  rename_i hz ha
  cases h
  exact ⟨hu, hz, ha⟩
theorem says_index {i : Operand} (ho : o.op = .index t x i) (h : trIndex P t x i = some k) : Says P o k := by
  unfold trIndex at h
  split at h <;> try (cases h; done)
  · rename_i hk
    have hu := kind_str hk
    cases h; intro ρ w hs; rw [exec_op ho]
    obtain ⟨h1, h2, h3, h4⟩ := hs
    cases hx : ρ x <;> simp [hx, isStr] at h1
    cases hy : ρ i <;> simp [hy, isInt] at h2
    rename_i s k' n
    simp only [hx, hy, ti, bl, ← Lib.size_eq] at h3 h4
    simp [execOp, hx, hy, v2, Instr.index, asIntOf, und hu, h3, ti, bl, getElem?_bl s n.toNat (by omega)]
  · split at h <;> try (cases h; done)
    rename_i n e sz a hk
    obtain ⟨hu, hz, ha⟩ := arr_spec hk
    split at h <;> try (cases h; done)
    rename_i has
    cases h; intro ρ w hs; rw [exec_op ho]
    simp only [s2] at hs
    split at hs <;> try (exact hs.elim)
    rename_i cs hx
    obtain ⟨h1, h2, h3, h4⟩ := hs
    cases hy : ρ i <;> simp [hy, isInt] at h1
    simp only [hy, ti] at h2 h3 h4
    cases a with
    | true => simp [execOp, hx, hy, v2, Instr.index, asIntOf, und hu, h2, h3, ti, siz hz, part, agg ha]
    | false =>
      have hs1 : sz = 1 := by simpa using has
      subst hs1
      simp only [Nat.mul_one] at h4
      simp [execOp, hx, hy, v2, Instr.index, asIntOf, und hu, h2, h3, ti, siz hz, part, agg ha, h4]
theorem says_indexAddr {i : Operand} (ho : o.op = .indexAddr t x i) (h : trIndexAddr P t x i = some k) : Says P o k := by
  unfold trIndexAddr at h
  split at h <;> try (cases h; done)
  · rename_i n hk
    obtain ⟨e, hu, hz⟩ := kind_slice hk
    cases h; intro ρ w hs; rw [exec_op ho]
    simp only [s2] at hs
    split at hs <;> try (exact hs.elim)
    rename_i a len cap hx
    obtain ⟨h1, h2, h3⟩ := hs
    cases hy : ρ i <;> simp [hy, isInt] at h1
    simp only [hy, ti] at h2 h3
    simp [execOp, hx, hy, v2, Instr.indexAt, asIntOf, und hu, h2, h3, ti, siz hz]
  · split at h <;> try (cases h; done)
    rename_i n e sz a hk
    obtain ⟨hu, hz, ha⟩ := arr_spec hk
    cases h; intro ρ w hs; rw [exec_op ho]
    simp only [s2] at hs
    split at hs <;> try (exact hs.elim)
    rename_i a hx
    obtain ⟨h1, h2, h3⟩ := hs
    cases hy : ρ i <;> simp [hy, isInt] at h1
    simp only [hy, ti] at h2 h3
    simp [execOp, hx, hy, v2, Instr.indexAt, asIntOf, und hu, h2, h3, ti, siz hz, Instr.sureAddr]
theorem extract_str (s : ByteArray) (i j : Nat) : (.string (s.extract i j) : Value) = str ((s.data.toList.take j).drop i) := by
  simp only [str, Value.string.injEq]
  rw [Lib.extract_eq, List.drop_take]
theorem bound_run {v : Value} {y : Nat} {c : BoundsCode} {w : World} (h1 : isInt v = true) (h2 : 0 ≤ ti v) (h3 : ti v ≤ y) : (Instr.sliceBound v y c).run P w = .ok (ti v).toNat w := by
  cases v <;> simp [isInt] at h1
  simp only [ti] at h2 h3 ⊢
  simp [Instr.sliceBound, asIntOf, h2, h3]
theorem says_slice {lo hi mx : Option Operand} (ho : o.op = .slice t x lo hi mx) (h : trSlice P t x lo hi mx = some k) : Says P o k := by
  unfold trSlice at h
  split at h <;> try (cases h; done)
  · rename_i hk
    have hu := kind_str hk
    split at h <;> try (cases h; done)
    · rename_i l hh
      cases h; intro ρ w hs; rw [exec_op ho]
      obtain ⟨h1, h2, h3, h4, h5, h6⟩ := hs
      cases hx : ρ x <;> simp [hx, isStr] at h1
      simp only [hx, bl, ← Lib.size_eq] at h6
      have e1 := fun c => bound_run (P := P) (w := w) (c := c) h3 (by omega) h6
      have e2 := fun c => bound_run (P := P) (w := w) (c := c) h2 h4 (y := (ti (ρ hh)).toNat) (by omega)
      simp [execOp, hx, v3, Instr.sliceAt, Instr.slice, Instr.sliceBounds, und hu, bl, e1, e2, extract_str]
    · cases h; intro ρ w hs; rw [exec_op ho]
      obtain ⟨h1, h2, h3, h4⟩ := hs
      cases hx : ρ x <;> simp [hx, isStr] at h1
      simp only [hx, bl, ← Lib.size_eq] at h4
      simp [execOp, hx, v2, Instr.sliceAt, Instr.slice, Instr.sliceBounds, und hu, bl, bound_run h2 h3 h4, extract_str]
      rw [List.take_of_length_le (by rw [← Lib.size_eq]; omega)]
    · cases h; intro ρ w hs; rw [exec_op ho]
      obtain ⟨h1, h2, h3, h4⟩ := hs
      cases hx : ρ x <;> simp [hx, isStr] at h1
      simp only [hx, bl, ← Lib.size_eq] at h4
      simp [execOp, hx, v2, Instr.sliceAt, Instr.slice, Instr.sliceBounds, und hu, bl, bound_run h2 h3 h4, extract_str]
  · rename_i n hk
    obtain ⟨e, hu, hz⟩ := kind_slice hk
    split at h <;> try (cases h; done)
    · rename_i l hh
      cases h; intro ρ w hs; rw [exec_op ho]
      simp only [s3] at hs
      split at hs <;> try (exact hs.elim)
      rename_i a len cap hx
      obtain ⟨h1, h2, h3, h4, h5⟩ := hs
      have e1 := fun c => bound_run (P := P) (w := w) (c := c) h2 (by omega) h5
      have e2 := fun c => bound_run (P := P) (w := w) (c := c) h1 h3 (y := (ti (ρ hh)).toNat) (by omega)
      simp [execOp, hx, v3, Instr.sliceAt, Instr.slice, Instr.sliceBounds, und hu, siz hz, e1, e2]
    · cases h; intro ρ w hs; rw [exec_op ho]
      simp only [s2] at hs
      split at hs <;> try (exact hs.elim)
      rename_i a len cap hx
      obtain ⟨h1, h2, h3⟩ := hs
      simp [execOp, hx, v2, Instr.sliceAt, Instr.slice, Instr.sliceBounds, und hu, siz hz, bound_run h1 h2 h3]
    · cases h; intro ρ w hs; rw [exec_op ho]
      simp only [s2] at hs
      split at hs <;> try (exact hs.elim)
      rename_i a len cap hx
      obtain ⟨h1, h2, h3⟩ := hs
      simp [execOp, hx, v2, Instr.sliceAt, Instr.slice, Instr.sliceBounds, und hu, siz hz, bound_run h1 h2 h3, Addr.add]
  · split at h <;> try (cases h; done)
    rename_i n e sz a hk
    obtain ⟨hu, hz, ha⟩ := arr_spec hk
    split at h
    · rename_i l hh
      cases h; intro ρ w hs; rw [exec_op ho]
      simp only [s3] at hs
      split at hs <;> try (exact hs.elim)
      rename_i b o' hx
      obtain ⟨h1, h2, h3, h4, h5⟩ := hs
      have e1 := fun c => bound_run (P := P) (w := w) (c := c) h2 (by omega) h5
      have e2 := fun c => bound_run (P := P) (w := w) (c := c) h1 h3 (y := (ti (ρ hh)).toNat) (by omega)
      simp [execOp, hx, v3, Instr.sliceAt, Instr.sliceBounds, und hu, siz hz, e1, e2, Instr.sureAddr]
    · cases h; intro ρ w hs; rw [exec_op ho]
      simp only [s2] at hs
      split at hs <;> try (exact hs.elim)
      rename_i b o' hx
      obtain ⟨h1, h2, h3⟩ := hs
      simp [execOp, hx, v2, Instr.sliceAt, Instr.sliceBounds, und hu, siz hz, bound_run h1 h2 h3, Instr.sureAddr]
    · cases h; intro ρ w hs; rw [exec_op ho]
      simp only [s2] at hs
      split at hs <;> try (exact hs.elim)
      rename_i b o' hx
      obtain ⟨h1, h2, h3⟩ := hs
      simp [execOp, hx, v2, Instr.sliceAt, Instr.sliceBounds, und hu, siz hz, bound_run h1 h2 h3, Instr.sureAddr, Addr.add_lit]
    · cases h; intro ρ w hs; rw [exec_op ho]
      simp only [s1] at hs
      split at hs <;> try (exact hs.elim)
      rename_i b o' hx
      simp [execOp, hx, v1, Instr.sliceAt, Instr.sliceBounds, und hu, siz hz, Instr.sureAddr, Addr.add_lit]

theorem foldl_size (o : Nat) : ∀ (ls : List (Value × Nat)) (cs : Array Value), (ls.foldl (fun cs p => cs.setIfInBounds (o + p.2) p.1) cs).size = cs.size
  | [], _ => rfl
  | _ :: ys, cs => by simp only [List.foldl_cons]; rw [foldl_size o ys]; simp
theorem putv_size (cs : Array Value) (o : Nat) (v : Value) : (putv cs o v).size = cs.size := by
  unfold putv; rw [← Array.foldl_toList]; exact foldl_size o _ cs
theorem parts_fill (z : Array Value) (ρ : Operand → Value) (place : Nat → Option (Nat × Nat)) : ∀ (ps : List (Nat × Operand)) (l : List (Nat × Nat × Operand)) (cs : Array Value), cs.size = z.size →
    (∀ p ∈ ps, (place p.1).isSome) → l = ps.map (fun p => (((place p.1).getD (0,0)).1, ((place p.1).getD (0,0)).2, p.2)) →
    (∀ p ∈ l, (ρ p.2.2).cells.size = p.2.1 ∧ p.1 + p.2.1 ≤ z.size) →
    Instr.fill place cs (ps.map fun p => (p.1, ρ p.2)) = some (l.foldl (fun cs p => putv cs p.1 (ρ p.2.2)) cs)
  | [], l, cs, _, _, hl, _ => by subst hl; rfl
  | (i, x) :: ps, l, cs, hcs, hp, hl, hok => by
    subst hl
    have h0 := hp (i, x) (by simp)
    obtain ⟨⟨o, n⟩, he⟩ := Option.isSome_iff_exists.1 h0
    have hk := hok (o, n, x) (by simp only [List.map_cons, List.mem_cons]; left; simp only at he; simp [he])
    simp only [List.map_cons, Instr.fill, List.foldl_cons]
    simp only at he
    rw [he]
    simp only [Option.getD_some]
    rw [if_neg (by have := hk.1; have := hk.2; simp only at *; rw [hcs]; simp; omega)]
    have hsz : (putv cs o (ρ x)).size = z.size := by rw [putv_size, hcs]
    exact parts_fill z ρ place ps _ _ hsz (fun p hm => hp p (by simp [hm])) rfl (fun p hm => hok p (by simp only [List.map_cons, List.mem_cons]; right; exact hm))

theorem says_build {ps : Array (Nat × Operand)} (ho : o.op = .build t ps) (h : trBuild P t ps = some k) : Says P o k := by
  unfold trBuild at h
  split at h <;> try (cases h; done)
  case h_2 it n e hi hu =>
    split at h <;> try (cases h; done)
    rename_i z ie hz hie
    cases h; intro ρ w hs; rw [exec_op ho]
    have hb : P.built t (ps.map fun (i, x) => (i, ρ x)).toList = some ((ps.toList.map fun p => (p.1 * ie.size, ie.size, p.2)).foldl (fun cs p => putv cs p.1 (ρ p.2.2)) z.cells) := by
      unfold Program.built
      simp only [hi, hu, hz, hie, Array.toList_map]
      exact parts_fill z.cells ρ (fun i => some (i * ie.size, ie.size)) ps.toList _ _ rfl (fun _ _ => rfl) rfl hs
    simp only [execOp, Sem.run_bind, run_build w t _ _ hb, Result.andThen_ok]; rfl
  rename_i it fields hi hu
  split at h <;> try (cases h; done)
  rename_i z places hz hpl
  split at h <;> try (cases h; done)
  rename_i hall
  cases h; intro ρ w hs; rw [exec_op ho]
  have hb : P.built t (ps.map fun (i, x) => (i, ρ x)).toList = some ((ps.toList.map fun p => (((places.toArray[p.1]?).getD (0, 0)).1, ((places.toArray[p.1]?).getD (0, 0)).2, p.2)).foldl (fun cs p => putv cs p.1 (ρ p.2.2)) z.cells) := by
    unfold Program.built
    simp only [hi, hu, hz, hpl, Array.toList_map]
    exact parts_fill z.cells ρ _ ps.toList _ _ rfl (fun p hp => (List.all_eq_true.1 hall) p hp) rfl hs
  simp only [execOp, Sem.run_bind, run_build w t _ _ hb, Result.andThen_ok]; rfl

theorem says_box (ho : o.op = .box t x) : Says P o (.ef (.box t) [x]) := by
  intro G hG a w next Q K KP hf hn _
  simp only [List.map_cons, List.map_nil, fpre] at hf
  refine upon_value (w' := { w with heap := w.heap.push (.cells (a.eval x).cells t) }) (by rw [exec_op ho]; simp [execOp, Instr.box, newVar, newRow]) (hn _ _ ⟨rfl, rfl, rfl⟩ hf)
theorem says_alloc (ho : o.op = .alloc t) (h : trAlloc P t = some k) : Says P o k := by
  unfold trAlloc at h
  cases hz : zeroT P t with
  | none => simp [hz] at h
  | some z =>
    simp only [hz, Option.map_some, Option.some.injEq] at h
    subst h
    unfold zeroT at hz
    cases hi : P.info? t with
    | none => simp [hi] at hz
    | some it =>
      simp only [hi, Option.bind_some] at hz
      cases hze : it.zero with
      | none => simp [hze] at hz
      | some zv =>
        simp only [hze, Option.map_some, Option.some.injEq] at hz
        intro G hG a w next Q K KP hf hn _
        simp only [List.map_nil, fpre] at hf
        refine upon_value (w' := { w with heap := w.heap.push (.cells z t) }) (by rw [exec_op ho]; simp [execOp, Instr.alloc, zeroValue, typeInfo, hi, hze, newVar, newRow, hz]) (hn _ _ ⟨rfl, rfl, rfl⟩ hf)

theorem setCell_heap (w : World) (b o : Nat) (v : Value) : w.setCell ⟨b, o, none⟩ v = { w with heap := hset w.heap b o v } := by
  unfold World.setCell hset
  simp only [Option.isSome_none, Bool.false_eq_true, if_false]
  congr 2
theorem frozen_heap (w : World) (b o : Nat) : w.frozen? ⟨b, o, none⟩ = (decide ((hfr w.heap b).1 ≤ o) && decide (o < (hfr w.heap b).2)) := by
  unfold World.frozen? hfr
  cases w.heap[b]? with
  | none => simp
  | some x => cases x <;> simp
theorem hset_get (h : H) (b o : Nat) (v : Value) (k : Nat) : (hset h b o v)[k]? = if k = b then (h[b]?).map (fun | .cells c e f => .cells (c.setIfInBounds o v) e f | x => x) else h[k]? := by
  unfold hset
  rw [Array.getElem?_modify]
  split
  · rename_i hk; subst hk; rw [if_pos rfl] <;> (cases h[k]? <;> first | rfl | (rename_i x; cases x <;> rfl))
  · rename_i hk; rw [if_neg (Ne.symm hk)]
theorem hset_sz (h : H) (b o : Nat) (v : Value) (k : Nat) : hsz (hset h b o v) k = hsz h k := by
  unfold hsz
  rw [hset_get]
  by_cases hk : k = b
  · subst hk
    rw [if_pos rfl]
    cases h[k]? with
    | none => rfl
    | some x => cases x <;> simp
  · rw [if_neg hk]
theorem hset_fr (h : H) (b o : Nat) (v : Value) (k : Nat) : hfr (hset h b o v) k = hfr h k := by
  unfold hfr
  rw [hset_get]
  by_cases hk : k = b
  · subst hk
    rw [if_pos rfl]
    cases h[k]? with
    | none => rfl
    | some x => cases x <;> simp
  · rw [if_neg hk]
theorem run_stores (P : Program) (b : Nat) : ∀ (vs : List Value) (o i : Nat) (w : World), o + i + vs.length ≤ hsz w.heap b → (o + i + vs.length ≤ (hfr w.heap b).1 ∨ (hfr w.heap b).2 ≤ o + i) → vs.all okCell = true →
    (storeCells ⟨b, o, none⟩ vs i).run P w = .ok () { w with heap := hsets w.heap b (o + i) vs }
  | [], o, i, w, _, _, _ => rfl
  | v :: r, o, i, w, h1, h2, h3 => by
    simp only [List.all_cons, Bool.and_eq_true] at h3
    simp only [List.length_cons] at h1 h2
    have hv : v.oneCell' = true := by have := h3.1; cases v <;> simp_all [okCell, Value.oneCell']
    simp only [storeCells, Sem.run_bind, run_store P _ _ v _ hv, add0, cell_hc, hc_some (show o + i < hsz w.heap b by omega)]
    rw [if_neg (by rw [frozen_heap]; simp; omega), setCell_heap]
    simp only [Result.andThen_ok]
    rw [run_stores P b r o (i + 1) _ (by simp only [hset_sz]; omega) (by simp only [hset_fr]; omega) h3.2]
    rfl
theorem says_store (ho : o.op = .store t x y) (h : trStore P t x y = some k) : Says P o k := by
  unfold trStore at h
  cases hz : sizeT P t with
  | none => simp [hz] at h
  | some n =>
    simp only [hz, Option.map_some, Option.some.injEq] at h
    subst h
    intro G hG a w next Q K KP hf hn _
    simp only [List.map_cons, List.map_nil, fpre] at hf
    split at hf <;> try (exact hf.elim)
    rename_i b o' hx
    obtain ⟨h1, h2, h3, h4, h5⟩ := hf
    have hr := run_stores P b (a.eval y).cells.toList o' 0 w (by simp; omega) (by simp; omega) h4
    have : (execOp a.eval o).run P w = .ok .skip { w with heap := hsets w.heap b o' (a.eval y).cells.toList } := by
      rw [exec_op ho]
      simp [execOp, hx, Instr.storeAt, Instr.sureAddr, storeVar, siz hz, h1, hr]
    unfold Oper.wp; rw [this]
    exact hn undef { w with heap := hsets w.heap b o' (a.eval y).cells.toList } ⟨rfl, rfl, rfl⟩ h5

theorem says_dead : Says P o (.ef .dead []) := by
  intro G hG a w next Q K KP hf hn hp
  exact hf.elim
theorem says_mki (ho : o.op = .makeInterface t x) (h : trMki P t x = some k) : Says P o k := by
  unfold trMki at h
  split at h <;> try (cases h; done)
  rename_i d hu hn
  cases h; intro ρ w hs; rw [exec_op ho]
  cases d <;> first | exact (hu _ rfl).elim | simp [execOp, Instr.makeInterface, und hn, v1]
theorem says_mkf {fn : Fn} {first cap : Array Operand} (ho : o.op = .makeFunc fn first cap) : Says P o (.ef (.mkf fn first.size) (first.toList ++ cap.toList)) := by
  intro G hG a w next Q K KP hf hn hp
  simp only [fpre] at hf
  refine upon_value (w' := w) (v := .func fn (first.map a.eval) (cap.map a.eval)) (by rw [exec_op ho]; simp [execOp, Instr.makeFunc]) (hn _ _ (.refl w) ?_)
  have e1 : ((List.map a.eval (first.toList ++ cap.toList)).take first.size).toArray = first.map a.eval := by
    apply Array.toList_inj.1; simp
  have e2 : ((List.map a.eval (first.toList ++ cap.toList)).drop first.size).toArray = cap.map a.eval := by
    apply Array.toList_inj.1; simp
  rw [e1, e2] at hf; exact hf
theorem reps_arr (z : List Value) (n m : Nat) (h : m = n * z.length) : (Array.range m).map (fun i => z.toArray[i % z.toArray.size]!) = (reps z n).toArray := by
  subst h
  apply Array.toList_inj.1
  simp only [Array.toList_map, Array.toList_range, reps, List.size_toArray]
  apply List.map_congr_left
  intro i hi
  rw [List.mem_range] at hi
  have hp : 0 < z.length := by
    rcases Nat.eq_zero_or_pos z.length with h0 | h0
    · rw [h0] at hi; simp at hi
    · exact h0
  have hlt : i % z.length < z.length := Nat.mod_lt _ hp
  rw [getElem!_pos z.toArray (i % z.length) (by simpa using hlt), List.getD_eq_getElem?_getD, List.getElem?_eq_getElem hlt]
  simp
theorem wrap64 {n : Int} (h1 : -9223372036854775808 ≤ n) (h2 : n ≤ 9223372036854775807) : IntKind.i64.wrap n = n := by
  rw [IntWalk.i64_left]; exact IntWalk.wrap64_in n ⟨h1, h2⟩
theorem fill_fillP (sz len : Nat) : ∀ (ps : List (Nat × Value)) (cs : Array Value), cs.size = len * sz → partsP sz len ps → Instr.fill (fun i => some (i * sz, sz)) cs ps = some (fillP sz cs.toList ps).toArray
  | [], cs, _, _ => by simp [Instr.fill, fillP]
  | (i, v) :: r, cs, hs, hp => by
    obtain ⟨h1, h2, h3⟩ := hp
    have hm : i * sz + sz ≤ len * sz := by
      have : (i + 1) * sz ≤ len * sz := Nat.mul_le_mul_right _ h2
      rw [Nat.add_mul, Nat.one_mul] at this; exact this
    simp only [Instr.fill]
    rw [if_neg (by simp only [Bool.or_eq_true, decide_eq_true_eq, ne_eq, not_or]; omega)]
    have hz : (putv cs (i * sz) v).size = len * sz := by rw [putv_size, hs]
    have := fill_fillP sz len r (putv cs (i * sz) v) hz h3
    simp only [fillP, Array.toArray_toList]
    exact this
theorem says_mks {y : Operand} (ho : o.op = .makeSlice t x y) (h : trMks P t x y = some k) : Says P o k := by
  unfold trMks at h
  split at h <;> try (cases h; done)
  rename_i e hu
  split at h <;> try (cases h; done)
  rename_i i hi
  split at h <;> try (cases h; done)
  rename_i z hz
  split at h <;> try (cases h; done)
  rename_i hc
  obtain ⟨hc1, hc2⟩ := hc
  cases h
  intro G hG a w next Q K KP hf hn hp
  simp only [List.map_cons, List.map_nil, fpre] at hf
  obtain ⟨h1, h2, h3, h4, h5, hK⟩ := hf
  cases hx : a.eval x <;> simp [hx, isInt] at h1
  cases hy : a.eval y <;> simp [hy, isInt] at h2
  rename_i k1 l k2 c
  simp only [hx, hy, ti] at h3 h4 h5 hK
  have hcb : c ≤ 140737488355328 := by
    have : c * 1 ≤ c * (i.bytes : Int) := Int.mul_le_mul_of_nonneg_left (by omega) (by omega)
    omega
  have w1 : IntKind.i64.wrap l = l := wrap64 (by omega) (by omega)
  have w2 : IntKind.i64.wrap c = c := wrap64 (by omega) (by omega)
  have hm : (i.bytes : Int) * c ≤ 140737488355328 := by rw [Int.mul_comm]; exact h5
  have c1 : ¬ (281474976710656 < (i.bytes : Int) * c) := by omega
  refine upon_value (w' := { w with heap := w.heap.push (.cells (reps z.cells.toList c.toNat).toArray e) }) (v := .slice (some ⟨w.heap.size, 0, none⟩) l.toNat c.toNat) ?_ (hn _ _ ⟨rfl, rfl, rfl⟩ hK)
  rw [exec_op ho]
  have hr : (Array.range (c.toNat * i.size)).map (fun j => (if c.toNat * i.size = 0 then #[] else z.cells)[j % (if c.toNat * i.size = 0 then #[] else z.cells).size]!) = (reps z.cells.toList c.toNat).toArray := by
    by_cases h0 : c.toNat * i.size = 0
    · rw [h0]
      have : (reps z.cells.toList c.toNat) = [] := by unfold reps; rw [Array.length_toList, hc1, h0]; rfl
      rw [this]; simp
    · simp only [if_neg h0]
      exact reps_arr z.cells.toList c.toNat _ (by rw [Array.length_toList, hc1])
  have hif : ¬ (((c < 0 ∨ 281474976710656 < (i.bytes : Int) * c) ∨ l < 0) ∨ c < l) := by omega
  have r0 : Array.range 0 = #[] := rfl
  by_cases h0 : c.toNat * i.size = 0
  · simp only [if_pos h0] at hr
    have hre : (reps z.cells.toList c.toNat) = [] := by unfold reps; rw [Array.length_toList, hc1, h0]; rfl
    simp [execOp, hx, hy, Instr.makeSlice, und hu, asInt, asIntOf, sizeOf, typeInfo, hi, w1, w2, h0, r0, newRow, hre, hif]
  · simp only [if_neg h0] at hr
    simp [execOp, hx, hy, Instr.makeSlice, und hu, asInt, asIntOf, sizeOf, typeInfo, zeroValue, hi, hz, w1, w2, h0, hr, newRow, hif]
theorem says_bsl {n : Nat} {ps : Array (Nat × Operand)} (ho : o.op = .buildSlice t n ps) (h : trBsl P t n ps = some k) : Says P o k := by
  unfold trBsl at h
  split at h <;> try (cases h; done)
  rename_i e hu
  split at h <;> try (cases h; done)
  rename_i i hi
  split at h <;> try (cases h; done)
  rename_i z hz
  split at h <;> try (cases h; done)
  rename_i hc
  obtain ⟨hc1, hc2⟩ := hc
  cases h
  intro G hG a w next Q K KP hf hn hp
  simp only [fpre] at hf
  obtain ⟨h1, h2, hK⟩ := hf
  have hzip : (ps.toList.map (·.1)).zip (List.map a.eval (ps.toList.map (·.2))) = (ps.map fun p => (p.1, a.eval p.2)).toList := by
    rw [Array.toList_map, List.map_map, List.zip_map']
    rfl
  rw [hzip] at h2 hK
  refine upon_value (w' := { w with heap := w.heap.push (.cells (fillP i.size (reps z.cells.toList n) (ps.map fun p => (p.1, a.eval p.2)).toList).toArray e) }) (v := .slice (some ⟨w.heap.size, 0, none⟩) n n) ?_ (hn _ _ ⟨rfl, rfl, rfl⟩ hK)
  rw [exec_op ho]
  have hr : (Array.range (n * i.size)).map (fun j => (if n * i.size = 0 then #[] else z.cells)[j % (if n * i.size = 0 then #[] else z.cells).size]!) = (reps z.cells.toList n).toArray := by
    by_cases h0 : n * i.size = 0
    · rw [h0]
      have : (reps z.cells.toList n) = [] := by unfold reps; rw [Array.length_toList, hc1, h0]; rfl
      rw [this]; simp
    · simp only [if_neg h0]
      exact reps_arr z.cells.toList n _ (by rw [Array.length_toList, hc1])
  have hl : (reps z.cells.toList n).toArray.size = n * i.size := by simp [reps, hc1]
  have hfl := fill_fillP i.size n (ps.map fun p => (p.1, a.eval p.2)).toList (reps z.cells.toList n).toArray hl h2
  have hlt : ¬ (16777216 < n * i.size) := by omega
  simp only [Array.toList_map] at hfl
  by_cases h0 : n * i.size = 0
  · simp only [if_pos h0] at hr
    have hre : (reps z.cells.toList n).toArray = #[] := Array.eq_empty_of_size_eq_zero (by rw [hl, h0])
    rw [hre] at hfl
    have r0 : Array.range 0 = #[] := rfl
    simp [execOp, Instr.buildSlice, und hu, sizeOf, typeInfo, hi, h0, r0, hfl, newRow]
  · simp only [if_neg h0] at hr
    simp [execOp, Instr.buildSlice, und hu, sizeOf, typeInfo, zeroValue, hi, hz, hlt, h0, hr, hfl, newRow]
theorem kn_spec {n : Kn} (h : knT P t = some n) : match n with
    | .ptr => ∃ e, P.underlying t = some (.pointer e) | .sl => ∃ e, P.underlying t = some (.slice e) | .map => ∃ a b, P.underlying t = some (.map a b)
    | .func => ∃ a b c, P.underlying t = some (.func a b c) | .iface => ∃ m, P.underlying t = some (.interface m) := by
  unfold knT at h
  split at h <;> first | (cases h; done) | (cases h; rename_i hu; exact ⟨_, hu⟩) | (cases h; rename_i hu; exact ⟨_, _, hu⟩) | (cases h; rename_i hu; exact ⟨_, _, _, hu⟩)
theorem kcs_len : ∀ (l : List Kc) (xs : List Value), kcsOk l xs = true → xs.length = l.length
  | [], [], _ => rfl
  | [], _ :: _, h => by cases h
  | _ :: _, [], h => by cases h
  | k :: l, x :: xs, h => by
    simp only [kcsOk, Bool.and_eq_true] at h
    simp only [List.length_cons, kcs_len l xs h.2]
theorem kcs_app : ∀ (l m : List Kc) (xs : List Value), kcsOk (l ++ m) xs = true → kcsOk l (xs.take l.length) = true ∧ kcsOk m (xs.drop l.length) = true
  | [], m, xs, h => ⟨rfl, h⟩
  | _ :: _, _, [], h => by cases h
  | k :: l, m, x :: xs, h => by
    simp only [List.cons_append, kcsOk, Bool.and_eq_true] at h
    have := kcs_app l m xs h.2
    simp only [List.length_cons, List.take_succ_cons, List.drop_succ_cons, kcsOk, Bool.and_eq_true]
    exact ⟨⟨h.1, this.1⟩, this.2⟩
theorem eqL_app : ∀ (a b c d : List Value), a.length = b.length → eqL (a ++ c) (b ++ d) = (eqL a b && eqL c d)
  | [], [], _, _, _ => by simp [eqL]
  | [], _ :: _, _, _, h => by cases h
  | _ :: _, [], _, _, h => by cases h
  | x :: a, y :: b, c, d, h => by
    simp only [List.cons_append, eqL]
    rw [eqL_app a b c d (by simpa using h), Bool.and_assoc]
def vOf (a : Bool) (xs : List Value) : Value := if a then .agg xs.toArray else xs.headD undef
theorem part_flat {a : Bool} {n off : Nat} {X : List Value} {w : World} (ha : aggT P t = some a) (hz : sizeT P t = some n) (m : Nat) (hm : if a then n = m else m = 1) (hl : a = false → off + m ≤ X.length) :
    (part t X.toArray off).run P w = .ok (vOf a ((X.drop off).take m)) w := by
  cases a with
  | true =>
    simp only [if_true] at hm; subst hm
    simp only [part, Sem.run_bind, agg ha, siz hz, Result.andThen_ok, if_true, Sem.run_pure, vOf, List.extract_toArray, List.extract_eq_take_drop, Nat.add_sub_cancel_left]
  | false =>
    simp only [Bool.false_eq_true, if_false] at hm; subst hm
    have hlt : off < X.length := by have := hl rfl; omega
    have : X.toArray[off]? = some X[off] := by simp [hlt]
    simp only [part, Sem.run_bind, agg ha, Result.andThen_ok, Bool.false_eq_true, if_false, this, Sem.run_pure, vOf]
    rw [List.drop_eq_getElem_cons hlt]; rfl
theorem eq_flat (d : Nat) : (∀ t l a m xs ys (w : World), flatT P d t = some l → aggT P t = some a → d ≤ m → kcsOk l xs = true → kcsOk l ys = true → (Op.equalIn m t (vOf a xs) (vOf a ys)).run P w = .ok (eqL xs ys) w) ∧
    (∀ off fs l m (X Y : List Value) (w : World), flatF P d off fs = some l → d ≤ m → kcsOk l (X.drop off) = true → kcsOk l (Y.drop off) = true → (Op.eqFields m X.toArray Y.toArray fs).run P w = .ok (eqL (X.drop off) (Y.drop off)) w) := by
  induction d with
  | zero =>
    refine ⟨fun t l a m xs ys w h => by simp [flatT] at h, fun off fs l m X Y w h hm hx hy => ?_⟩
    cases fs with
    | cons f fs => simp [flatF] at h
    | nil =>
      simp only [flatF, Option.some.injEq] at h
      subst h
      have e1 : X.drop off = [] := List.eq_nil_of_length_eq_zero (by rw [kcs_len _ _ hx]; rfl)
      have e2 : Y.drop off = [] := List.eq_nil_of_length_eq_zero (by rw [kcs_len _ _ hy]; rfl)
      rw [e1, e2]; simp [Op.eqFields, eqL]
  | succ d ih =>
    refine ⟨fun t l a m xs ys w h ha hm hx hy => ?_, fun off fs l m X Y w h hm hx hy => ?_⟩
    · obtain ⟨m, rfl⟩ : ∃ k, m = k + 1 := ⟨m - 1, by omega⟩
      unfold flatT at h
      unfold aggT at ha
      split at h <;> try (cases h; done)
      · rename_i k hu
        simp only [hu, Option.map_some, Option.some.injEq] at ha
        cases h; subst ha
        match xs, ys, hx, hy with
        | [x], [y], hx, hy =>
          cases x <;> simp [kcsOk, kcOk] at hx
          cases y <;> simp [kcsOk, kcOk] at hy
          subst hx; subst hy
          simp [vOf, eqL, ceq, Op.equalIn, und hu]
          exact Bool.eq_iff_iff.2 (by simp)
        | [], _, hx, _ => cases hx
        | _ :: _ :: _, _, hx, _ => simp [kcsOk] at hx
        | [_], [], _, hy => cases hy
        | [_], _ :: _ :: _, _, hy => simp [kcsOk] at hy
      · rename_i hu
        simp only [hu, Option.map_some, Option.some.injEq] at ha
        cases h; subst ha
        match xs, ys, hx, hy with
        | [x], [y], hx, hy =>
          cases x <;> simp [kcsOk, kcOk] at hx
          cases y <;> simp [kcsOk, kcOk] at hy
          simp only [vOf, eqL, ceq, Bool.and_true, Bool.false_eq_true, if_false, List.headD_cons]
          rw [run_equalIn_string w m t _ _ hu, bl_beq]
        | [], _, hx, _ => cases hx
        | _ :: _ :: _, _, hx, _ => simp [kcsOk] at hx
        | [_], [], _, hy => cases hy
        | [_], _ :: _ :: _, _, hy => simp [kcsOk] at hy
      · rename_i hu
        simp only [hu, Option.map_some, Option.some.injEq] at ha
        cases h; subst ha
        match xs, ys, hx, hy with
        | [x], [y], hx, hy =>
          cases x <;> simp [kcsOk, kcOk] at hx
          cases y <;> simp [kcsOk, kcOk] at hy
          simp [vOf, eqL, ceq, Op.equalIn, und hu]
          rename_i b1 b2
          cases b1 <;> cases b2 <;> rfl
        | [], _, hx, _ => cases hx
        | _ :: _ :: _, _, hx, _ => simp [kcsOk] at hx
        | [_], [], _, hy => cases hy
        | [_], _ :: _ :: _, _, hy => simp [kcsOk] at hy
      · rename_i fs hu
        simp only [hu, Option.map_some, Option.some.injEq] at ha
        subst ha
        split at h <;> try (cases h; done)
        rename_i hst
        have hfo : P.fieldsOf t = fs := by unfold Program.fieldsOf; rw [hu]
        simp only [vOf, if_true]
        rw [run_equalIn_struct w m t _ _ (by rw [hfo]; exact hu) (by simpa using hst), hfo]
        have := ih.2 0 fs.toList l m xs ys w h (by omega) (by simpa using hx) (by simpa using hy)
        simpa using this
    · cases fs with
      | nil =>
        simp only [flatF, Option.some.injEq] at h
        subst h
        have e1 : X.drop off = [] := List.eq_nil_of_length_eq_zero (by rw [kcs_len _ _ hx]; rfl)
        have e2 : Y.drop off = [] := List.eq_nil_of_length_eq_zero (by rw [kcs_len _ _ hy]; rfl)
        rw [e1, e2]; simp [Op.eqFields, eqL]
      | cons f fs =>
        unfold flatF at h
        split at h <;> try (cases h; done)
        rename_i l1 a n h1 h2 h3
        by_cases hc : f.offset = off ∧ f.name ≠ "_" ∧ (if a = true then n = l1.length else l1.length = 1)
        case neg => rw [if_neg hc] at h; cases h
        rw [if_pos hc] at h
        obtain ⟨rfl, hn, hs⟩ := hc
        cases hr : flatF P d (f.offset + l1.length) fs with
        | none => simp [hr] at h
        | some l2 =>
          simp only [hr, Option.map_some, Option.some.injEq] at h
          subst h
          obtain ⟨x1, x2⟩ := kcs_app l1 l2 _ hx
          obtain ⟨y1, y2⟩ := kcs_app l1 l2 _ hy
          rw [List.drop_drop] at x2 y2
          have lx : a = false → f.offset + l1.length ≤ X.length := by
            intro ha0; subst ha0
            have h0 := kcs_len _ _ x1
            simp only [Bool.false_eq_true, if_false] at hs
            rw [List.length_take, List.length_drop] at h0; omega
          have ly : a = false → f.offset + l1.length ≤ Y.length := by
            intro ha0; subst ha0
            have h0 := kcs_len _ _ y1
            simp only [Bool.false_eq_true, if_false] at hs
            rw [List.length_take, List.length_drop] at h0; omega
          simp only [Op.eqFields, if_pos hn, Sem.run_bind, part_flat h2 h3 l1.length hs lx, part_flat h2 h3 l1.length hs ly, Result.andThen_ok]
          rw [ih.1 f.type l1 a m _ _ w h1 h2 (by omega) x1 y1]
          simp only [Result.andThen_ok, Sem.run_ite]
          have e := eqL_app ((X.drop f.offset).take l1.length) ((Y.drop f.offset).take l1.length) ((X.drop f.offset).drop l1.length) ((Y.drop f.offset).drop l1.length) (by rw [kcs_len _ _ x1, kcs_len _ _ y1])
          rw [List.take_append_drop, List.take_append_drop, List.drop_drop, List.drop_drop] at e
          rw [e, ih.2 _ fs l2 m X Y w hr (by omega) x2 y2]
          cases eqL ((X.drop f.offset).take l1.length) ((Y.drop f.offset).take l1.length) <;> simp
section
variable {e : TypeId} {a b : Option Addr} {n c n' c' m : Nat} {w : World}
theorem eqI_ptr (hu : P.underlying t = some (.pointer e)) (h : a = none ∨ b = none) : (Op.equalIn (m + 1) t (.pointer a) (.pointer b)).run P w = .ok (a.isNone && b.isNone) w := by
  cases a <;> cases b <;> simp at h <;> simp [Op.equalIn, und hu]
theorem eqI_sl (hu : P.underlying t = some (.slice e)) (h : a = none ∨ b = none) : (Op.equalIn (m + 1) t (.slice a n c) (.slice b n' c')).run P w = .ok (a.isNone && b.isNone) w := by
  cases a <;> cases b <;> simp at h <;> simp [Op.equalIn, und hu]
theorem eqI_map {d : TypeId} {a b : Option Nat} (hu : P.underlying t = some (.map e d)) (h : a = none ∨ b = none) : (Op.equalIn (m + 1) t (.map a) (.map b)).run P w = .ok (a.isNone && b.isNone) w := by
  cases a <;> cases b <;> simp at h <;> simp [Op.equalIn, und hu]
theorem eqI_func0 {x1 : Array TypeId} {x2 : Array TypeId} {x3 : Bool} (hu : P.underlying t = some (.func x1 x2 x3)) : (Op.equalIn (m + 1) t .nilFunc .nilFunc).run P w = .ok true w := by
  simp [Op.equalIn, und hu]
theorem eqI_func1 {x1 : Array TypeId} {x2 : Array TypeId} {x3 : Bool} {f : Fn} {u v : Array Value} (hu : P.underlying t = some (.func x1 x2 x3)) : (Op.equalIn (m + 1) t .nilFunc (.func f u v)).run P w = .ok false w := by
  simp [Op.equalIn, und hu]
theorem eqI_func2 {x1 : Array TypeId} {x2 : Array TypeId} {x3 : Bool} {f : Fn} {u v : Array Value} (hu : P.underlying t = some (.func x1 x2 x3)) : (Op.equalIn (m + 1) t (.func f u v) .nilFunc).run P w = .ok false w := by
  simp [Op.equalIn, und hu]
theorem eqI_if0 {x1 : Array (String × TypeId)} (hu : P.underlying t = some (.interface x1)) : (Op.equalIn (m + 1) t .nilIface .nilIface).run P w = .ok true w := by
  simp [Op.equalIn, und hu]
theorem eqI_if1 {x1 : Array (String × TypeId)} {f : TypeId} {u : Value} (hu : P.underlying t = some (.interface x1)) : (Op.equalIn (m + 1) t .nilIface (.iface f u)).run P w = .ok false w := by
  simp [Op.equalIn, und hu]
theorem eqI_if2 {x1 : Array (String × TypeId)} {f : TypeId} {u : Value} (hu : P.underlying t = some (.interface x1)) : (Op.equalIn (m + 1) t (.iface f u) .nilIface).run P w = .ok false w := by
  simp [Op.equalIn, und hu]
end
theorem says_eq {neg : Bool} {op : BinOp} {yt : TypeId} (hop : op = if neg then .neq else .eql) (ho : o.op = .binOp op t x y yt) (h : trBin2.trEq P t x y neg = some k) : Says P o k := by
  unfold trBin2.trEq at h
  have eqn : ∀ n : Kn, (n = .iface → (isC x || isC y) = true) → knT P t = some n → Says P o (.q2 (.eqn n neg) x y) := by
    intro n hc hk ρ w hs
    rw [exec_op ho]
    have hk := kn_spec hk
    simp only [s2] at hs
    have hrun : ∀ b, (eqGuard op t x y (ρ x) (ρ y)).run P w = .ok () w → (Op.equalIn (9999 + 1) t (ρ x) (ρ y)).run P w = .ok b w →
        (binOp .eql t (ρ x) (ρ y)).run P w = ((Op.equal t (ρ x) (ρ y)).run P w).andThen (fun r w' => .ok (.bool r) w') → (binOp .neq t (ρ x) (ρ y)).run P w = ((Op.equal t (ρ x) (ρ y)).run P w).andThen (fun r w' => .ok (.bool (!r)) w') →
        b = (decide (nil? n (ρ x) = some true) && decide (nil? n (ρ y) = some true)) →
        (execOp ρ { dst := o.dst, op := .binOp op t x y yt, type := o.type, pos := o.pos, after := o.after, guard := o.guard }).run P w = .ok (.value (v2 (.eqn n neg) (ρ x) (ρ y) w.heap)) w := by
      intro b h1 h2 h3 h4 h5
      have h6 : (Op.equal t (ρ x) (ρ y)).run P w = .ok b w := h2
      rw [h6] at h3 h4
      subst h5
      cases neg <;> subst hop <;> simp only [Bool.false_eq_true, if_false, if_true] at h1
      · simp only [execOp, Sem.run_bind, h1, h3, Result.andThen_ok, if_false, Bool.false_eq_true, Sem.run_pure, v2]
      · simp only [execOp, Sem.run_bind, h1, h4, Result.andThen_ok, if_true, Sem.run_pure, v2]
    cases n with
    | ptr =>
      obtain ⟨e, hu⟩ := hk
      cases hx : ρ x <;> simp [nil?, hx] at hs
      cases hy : ρ y <;> simp [hy] at hs
      rename_i a b
      rw [← hx, ← hy]
      refine hrun (a.isNone && b.isNone) ?_ ?_ ?_ ?_ ?_ <;> rw [hx, hy]
      · cases op <;> simp [eqGuard]
      · exact eqI_ptr hu hs
      · simp [binOp]
      · simp [binOp]
      · cases a <;> cases b <;> simp [nil?]
    | sl =>
      obtain ⟨e, hu⟩ := hk
      cases hx : ρ x <;> simp [nil?, hx] at hs
      cases hy : ρ y <;> simp [hy] at hs
      rename_i a _ _ b _ _
      rw [← hx, ← hy]
      refine hrun (a.isNone && b.isNone) ?_ ?_ ?_ ?_ ?_ <;> rw [hx, hy]
      · cases op <;> simp [eqGuard]
      · exact eqI_sl hu hs
      · simp [binOp]
      · simp [binOp]
      · cases a <;> cases b <;> simp [nil?]
    | map =>
      obtain ⟨e, f, hu⟩ := hk
      cases hx : ρ x <;> simp [nil?, hx] at hs
      cases hy : ρ y <;> simp [hy] at hs
      rename_i a b
      rw [← hx, ← hy]
      refine hrun (a.isNone && b.isNone) ?_ ?_ ?_ ?_ ?_ <;> rw [hx, hy]
      · cases op <;> simp [eqGuard]
      · exact eqI_map hu hs
      · simp [binOp]
      · simp [binOp]
      · cases a <;> cases b <;> simp [nil?]
    | func =>
      obtain ⟨e, f, g, hu⟩ := hk
      cases hx : ρ x <;> simp [nil?, hx] at hs <;> cases hy : ρ y <;> simp [hy] at hs <;> rw [hx, hy] at hrun <;> refine hrun _ ?_ ?_ ?_ ?_ rfl
      all_goals first
        | (cases op <;> simp [eqGuard]; done)
        | (exact eqI_func0 hu)
        | (exact eqI_func1 hu)
        | (exact eqI_func2 hu)
        | (simp [binOp]; done)
    | iface =>
      obtain ⟨m, hu⟩ := hk
      have hc := hc rfl
      cases hx : ρ x <;> simp [nil?, hx] at hs <;> cases hy : ρ y <;> simp [hy] at hs <;> rw [hx, hy] at hrun <;> refine hrun _ ?_ ?_ ?_ ?_ rfl
      all_goals first
        | (cases x <;> cases y <;> simp [isC] at hc <;> cases op <;> simp [eqGuard]; done)
        | (exact eqI_if0 hu)
        | (exact eqI_if1 hu)
        | (exact eqI_if2 hu)
        | (simp [binOp]; done)
  split at h
  · rename_i hk
    split at h <;> try (cases h; done)
    rename_i hc
    cases h; exact eqn .iface (fun _ => hc) hk
  · rename_i n hni hk
    cases h; exact eqn n (fun e => absurd e hni) hk
  · split at h <;> try (cases h; done)
    rename_i fs ks hu hks
    split at h <;> try (cases h; done)
    rename_i hg
    cases h
    intro ρ w hs; rw [exec_op ho]
    simp only [s2] at hs
    split at hs <;> try (exact hs.elim)
    rename_i xs ys hx hy
    have ha : aggT P t = some true := by unfold aggT; rw [hu]; rfl
    have he := (eq_flat (P := P) 20).1 t ks true 10000 xs.toList ys.toList w hks ha (by decide) hs.1 hs.2
    simp only [vOf, if_true, Array.toArray_toList] at he
    have hgu := fun op' => run_eqGuard_agg (P := P) w op' t x y xs ys (by simpa using hg)
    cases neg <;> subst hop <;> simp [execOp, hx, hy, v2, hgu, run_eql_struct, run_neq_struct, he]
theorem says_bin2 {op : BinOp} {yt : TypeId} (ho : o.op = .binOp op t x y yt) (h : trBin2 P op t x y = some k) : Says P o k := by
  unfold trBin2 at h
  split at h <;> try (cases h; done)
  · split at h <;> try (cases h; done)
    rename_i hk hb
    cases h; intro ρ w hs; rw [exec_op ho]
    simp only [s2] at hs
    obtain ⟨h1, h2, h3⟩ := hs
    cases hx : ρ x <;> simp [hx, isInt] at h1
    cases hy : ρ y <;> simp [hy, isInt] at h2
    simp only [hx, hy, ti, tk] at h3
    have key : isShift op = false → ∀ (k : IntKind) (a b : Int), (Op.intBits op k a b).run P w = .ok (.int k (bitsI op k a b)) w := by
      intro hs k a b
      cases op <;> simp [isBits] at hb <;> first | cases hs; done | rfl
    cases hsh : isShift op with
    | true =>
      rw [hsh] at h3
      simp only [if_true] at h3
      have h4 := Int.not_lt.2 h3
      cases op <;> simp [isShift] at hsh <;> simp [execOp, eqGuard, binOp, hx, hy, v2, ti, tk, bitsI, Op.shift, h4]
    | false =>
      rw [hsh] at h3
      simp only [Bool.false_eq_true, if_false] at h3
      subst h3
      have := key hsh
      cases op <;> simp [isBits] at hb <;> simp [isShift] at hsh <;> simp [execOp, eqGuard, binOp, hx, hy, v2, ti, tk, this]
  · split at h <;> try (cases h; done)
    · exact says_eq (neg := false) rfl ho h
    · exact says_eq (neg := true) rfl ho h
theorem call_wp {f : FuncId} {vs : List Value} {a : Act} {w : World} {next : Act → World → Prop} {Q : Exit → Act → World → Prop} {K : Value → H → Prop} {KP : List PanicEntry → H → Prop}
    (hr : (execOp a.eval o).run P w = (callFunc f vs.toArray).run P w) (hc : HCX P f vs w.heap K KP)
    (hn : ∀ v w', Keep w w' → K v w'.heap → next (a.put o.dst v) w') (hp : ∀ c w', Keep w w' → KP c w'.heap → Q (.panic c) a w') : o.wp P a w next Q := by
  rcases hc with ⟨hb, hc⟩ | ⟨_, hc⟩
  · unfold hasB at hb
    split at hb
    · rename_i fn hfn
      simp only [Bool.and_eq_true, bne_iff_ne, ne_eq] at hb
      have hr : (execOp a.eval o).run P w = .ok (.enter f vs.toArray) w := by
        rw [hr]
        obtain ⟨bd, hbd⟩ := Option.isSome_iff_exists.1 hb.1
        simp [callFunc, hfn, hb.2, hbd]
      unfold Oper.wp; rw [hr]
      refine (hc w rfl).mono fun e w' ⟨hk, hR⟩ => ?_
      cases e with
      | returned v => exact hn _ _ hk hR
      | panicked c => exact hp _ _ hk hR
      | outgrown => exact hR.elim
    · cases hb
  · obtain ⟨v, w', hr2, hk, hK⟩ := hc w rfl
    exact upon_value (w' := w') (v := v) (hr.trans hr2) (hn _ _ hk hK)
theorem map_eval (a : Act) (args : Array Operand) : (args.toList.map a.eval).toArray = args.map a.eval := by apply Array.toList_inj.1; simp only [Array.toList_map]

theorem tabM_spec {name : String} {g : FuncId} (h : tabGet (tabM P name) t = some g) : methT P t name = some g := by
  unfold tabM at h
  generalize List.range P.types.size = l at h
  induction l with
  | nil => cases h
  | cons a l ih =>
    simp only [List.filterMap_cons] at h
    cases hm : methT P a name with
    | none => rw [hm] at h; exact ih h
    | some g' =>
      rw [hm] at h
      simp only [Option.map_some, tabGet] at h
      split at h
      · rename_i e; subst e; rw [hm]; exact h
      · exact ih h
theorem run_method {name : String} {g : FuncId} {v : Value} {w : World} (h : methT P t name = some g) : (method (P.types.size + Made.depth) t v name).run P w = .ok (g, v) w := by
  unfold methT at h
  cases hi : P.info? t with
  | none => simp [hi] at h
  | some i =>
    simp only [hi] at h
    cases hm : i.methods.find? (·.name == name) with
    | none => simp [hm] at h
    | some m =>
      simp only [hm] at h
      split at h <;> try (cases h; done)
      rename_i hp
      split at h <;> try (cases h; done)
      rename_i f p hf
      have hpe : m.path = #[] := by simpa using hp
      show (method (P.types.size + 99 + 1) t v name).run P w = _
      unfold method
      simp only [Sem.run_bind, typeInfo, run_program, Result.andThen_ok, hi, Sem.run_pure, hm, hpe, follow, hf, receiverAt, underlying]
      cases hu : P.underlying t with
      | none => simp [hu] at h
      | some d =>
        cases d <;> cases p <;> simp [hu] at h <;> subst h <;> simp [Place.get]
theorem hvs_get {h : H} {b o k j : Nat} {v : Value} (hk : o + k ≤ hsz h b) (hj : (hvs h b o k)[j]? = some v) : hc h b (o + j) = some v := by
  unfold hvs at hj
  rw [List.getElem?_map, Option.map_eq_some_iff] at hj
  obtain ⟨i, hi, rfl⟩ := hj
  have h1 := List.getElem?_eq_some_iff.1 hi
  obtain ⟨h2, h3⟩ := h1
  rw [List.getElem_range] at h3
  subst h3
  rw [List.length_range] at h2
  exact hc_some (by omega)
theorem rows_none {h : H} {k : Nat} {l : List Value} (hr : rowsP h none k l) : l = [] := by
  rcases hr with ⟨_, h⟩ | h <;> exact h
theorem rows_get {w : World} {a : Addr} {k : Nat} {l : List Value} (hr : rowsP w.heap (some a) k l) : l.length = k ∧ ∀ j v, l[j]? = some v → w.cell? (a.add j) = some v := by
  rcases hr with ⟨rfl, rfl⟩ | hr
  · exact ⟨rfl, fun j v hj => by simp at hj⟩
  obtain ⟨b, o, s⟩ := a
  cases s with
  | some s => exact hr.elim
  | none => ?_
  obtain ⟨h1, rfl⟩ := hr
  refine ⟨by simp [hvs], fun j v hj => ?_⟩
  rw [Addr.add_lit, cell_hc]
  exact hvs_get h1 hj
theorem zeroCells_eq (z : Value) (n : Nat) : Builtin.zeroCells z.cells n = (reps z.cells.toList n).toArray := by
  unfold Builtin.zeroCells
  exact reps_arr z.cells.toList n _ (by simp)
theorem reps_one (v : Value) (n : Nat) : reps [v] n = List.replicate n v := by
  unfold reps
  refine List.ext_getElem (by simp) fun i h1 h2 => ?_
  simp [Nat.mod_one]
theorem drew_run {w : World} (h : H) : Keep w { w.drew with heap := h } := ⟨rfl, rfl, rfl⟩
theorem says_app {x y : Operand} {u : TypeId} {ats : Array TypeId} {args : Array Operand} (ea : args = #[x, y]) (et : ats = #[t, u]) (ho : o.op = .call { callee := .builtin .append, args, argTypes := ats }) (h : trApp P t u x y = some k) : Says P o k := by
  subst ea et
  unfold trApp at h
  split at h <;> try (cases h; done)
  case h_2 e hu hst =>
    split at h <;> try (cases h; done)
    rename_i i hi
    split at h <;> try (cases h; done)
    rename_i hz
    split at h <;> try (cases h; done)
    rename_i hc
    obtain ⟨hc1, hc2⟩ := hc
    cases h
    intro G hG ac w next Q K KP hf hn hp
    simp only [List.map_cons, List.map_nil, fpre] at hf
    split at hf <;> try (exact hf.elim)
    rename_i a n c hx
    obtain ⟨hy, hn0, hnc, hbt, olds, hro, hin, hgr⟩ := hf
    obtain ⟨s, hs⟩ : ∃ s : ByteArray, ac.eval y = .string s := by
      cases hv : ac.eval y <;> simp [hv, isStr] at hy
      exact ⟨_, rfl⟩
    have hbl : (bl (ac.eval y)).map byteV = Lib.strCells s := by rw [hs]; rfl
    have hln : (bl (ac.eval y)).length = s.size := by
      rw [hs]; show s.data.toList.length = s.size
      rw [Array.length_toList]; rfl
    rw [hbl, hln] at hin hgr
    rw [hln] at hbt
    have hex : ∀ v w', (Builtin.append_ #[t, u] o.type #[.slice a n c, .string s]).run P w = .ok v w' → (execOp ac.eval o).run P w = .ok (.value v) w' := by
      intro v w' h
      rw [exec_op ho]
      simp [execOp, resolve, invoke, builtin, hx, hs, h]
    have hfc := Lib.run_firstCells_string (P := P) w 1 s
    by_cases hle : n + s.size ≤ c
    · have hin := hin hle
      cases a with
      | none =>
        obtain ⟨rfl, rfl⟩ := hn0 rfl
        have h0 : s.size = 0 := by omega
        rw [h0] at hfc
        refine upon_value (w' := w) (hex (.slice none 0 0) w ?_) (hn _ _ (.refl w) hin)
        simp [Builtin.append_, run_underlying hu, run_underlying hst, sizeOf, typeInfo, hi, hc1, Builtin.lenOf, hfc, h0]
      | some a =>
        obtain ⟨bb, ao, as⟩ := a
        cases as with
        | some s => exact hin.elim
        | none =>
          obtain ⟨⟨w1, w2, w3⟩, hK⟩ := hin
          have hst2 := run_stores P bb (Lib.strCells s) (ao + n) 0 w (by omega) (by omega) w3
          refine upon_value (w' := { w with heap := hsets w.heap bb (ao + n) (Lib.strCells s) }) (hex (.slice (some ⟨bb, ao, none⟩) (n + s.size) c) _ ?_) (hn _ _ ⟨rfl, rfl, rfl⟩ hK)
          simp only [Nat.add_zero] at hst2
          simp [Builtin.append_, run_underlying hu, run_underlying hst, sizeOf, typeInfo, hi, hc1, Builtin.lenOf, hle, hfc, Addr.add_lit, hst2]
    · have hlt : c < n + s.size := by omega
      have hgr2 := hgr hlt
      have hml : n + s.size ≤ maxLen := Nat.le_trans hbt (by decide)
      cases a with
      | none =>
        obtain ⟨rfl, rfl⟩ := hn0 rfl
        have ho2 : olds = [] := rows_none hro
        subst ho2
        have hr := run_append_nil_string (P := P) w t u o.type e i (.int .u8 0) hu hst hi hz s (by omega) (by omega) (by rw [hc2]; omega)
        have hK := hgr2 (grownCap w s.size 0 e) (by rw [Nat.zero_add]; exact grownCap_ge w s.size 0 e) (grownCap_le_maxLen w s.size 0 e (by omega))
        refine upon_value (hex _ _ hr) (hn _ _ (drew_run _) ?_)
        simp only [Nat.zero_add, List.nil_append] at hK ⊢
        have : s.data.map (fun b => Value.int .u8 b.toNat) ++ Builtin.zeroCells (Value.int .u8 0).cells (grownCap w s.size 0 e - s.size) = (Lib.strCells s ++ List.replicate (grownCap w s.size 0 e - s.size) (Value.int .u8 0)).toArray := by
          rw [zeroCells_eq]
          apply Array.ext'
          simp [Lib.strCells, Value.cells, reps_one]
        rw [this]; exact hK
      | some a =>
        obtain ⟨o1, o2⟩ := rows_get hro
        have hr := Lib.run_append_grow_string (P := P) w t u o.type e i (.int .u8 0) hu hst hi hz a n c olds (by rw [hc1, o1]; omega) o2 s hlt (by omega) (by rw [hc2]; exact growslice_fits hlt (by omega))
        have hK := hgr2 (grownCap w (n + s.size) c e) (grownCap_ge w (n + s.size) c e) (grownCap_le_maxLen w (n + s.size) c e hml)
        refine upon_value (hex _ _ hr) (hn _ _ (drew_run _) ?_)
        have : olds.toArray ++ (Lib.strCells s).toArray ++ Builtin.zeroCells (Value.int .u8 0).cells (grownCap w (n + s.size) c e - (n + s.size)) = (olds ++ Lib.strCells s ++ List.replicate (grownCap w (n + s.size) c e - (n + s.size)) (Value.int .u8 0)).toArray := by
          rw [zeroCells_eq]
          apply Array.ext'
          simp [Value.cells, reps_one]
        rw [this]; exact hK
  rename_i e _ hu _
  split at h <;> try (cases h; done)
  rename_i i hi
  split at h <;> try (cases h; done)
  rename_i z hz
  split at h <;> try (cases h; done)
  rename_i hc
  obtain ⟨hc1, hc2, rfl⟩ := hc
  cases h
  intro G hG ac w next Q K KP hf hn hp
  simp only [List.map_cons, List.map_nil, fpre] at hf
  split at hf <;> try (exact hf.elim)
  rename_i a n c b m d hx hy
  obtain ⟨hn0, hm0, hnc, hbt, olds, news, hro, hrn, hin, hgr⟩ := hf
  have hmb : n + m ≤ 140737488355328 := Nat.le_trans (Nat.le_mul_of_pos_right _ hc2) hbt
  have hex : ∀ v w', (Builtin.append_ #[t, t] o.type #[.slice a n c, .slice b m d]).run P w = .ok v w' → (execOp ac.eval o).run P w = .ok (.value v) w' := by
    intro v w' h
    rw [exec_op ho]
    simp [execOp, resolve, invoke, builtin, hx, hy, h]
  by_cases hle : n + m ≤ c
  · have hin := hin hle
    have hl : (Builtin.firstCells i.size m (.slice b m d)).run P w = .ok news.toArray w := by
      cases b with
      | none => rw [rows_none hrn]; simp [Builtin.firstCells]
      | some b => exact run_firstCells_some w i.size m _ m d news (rows_get hrn).1 (rows_get hrn).2
    cases a with
    | none =>
      refine upon_value (w' := w) (hex (.slice none (n + m) c) w ?_) (hn _ _ (.refl w) hin)
      simp [Builtin.append_, run_underlying hu, sizeOf, typeInfo, hi, Builtin.lenOf, hle, hl]
    | some a =>
      obtain ⟨bb, ao, as⟩ := a
      cases as with
      | some s => exact hin.elim
      | none =>
        obtain ⟨⟨w1, w2, w3⟩, hK⟩ := hin
        have hst := run_stores P bb news (ao + n * i.size) 0 w (by omega) (by omega) w3
        refine upon_value (w' := { w with heap := hsets w.heap bb (ao + n * i.size) news }) (hex (.slice (some ⟨bb, ao, none⟩) (n + m) c) _ ?_) (hn _ _ ⟨rfl, rfl, rfl⟩ hK)
        simp only [Nat.add_zero] at hst
        simp [Builtin.append_, run_underlying hu, sizeOf, typeInfo, hi, Builtin.lenOf, hle, hl, Addr.add_lit, hst]
  · have hlt : c < n + m := by omega
    have hgr2 := hgr hlt
    have hb : ∃ b', b = some b' := by
      cases b with
      | none => have := hm0 rfl; omega
      | some b => exact ⟨b, rfl⟩
    obtain ⟨b', rfl⟩ := hb
    obtain ⟨n1, n2⟩ := rows_get hrn
    have hml : n + m ≤ maxLen := Nat.le_trans hmb (by decide)
    cases a with
    | none =>
      obtain ⟨rfl, rfl⟩ := hn0 rfl
      have ho2 : olds = [] := rows_none hro
      subst ho2
      rw [Nat.zero_add] at hbt
      have hr := run_append_nil (P := P) w t o.type e i z hu hi hz b' m d news n1 n2 (by omega) (by omega) (by omega)
      have hK := hgr2 (grownCap w m 0 e) (by rw [Nat.zero_add]; exact grownCap_ge w m 0 e) (grownCap_le_maxLen w m 0 e (by omega))
      refine upon_value (hex _ _ hr) (hn _ _ (drew_run _) ?_)
      simp only [Nat.zero_add, List.nil_append] at hK ⊢
      have : news.toArray ++ Builtin.zeroCells z.cells (grownCap w m 0 e - m) = (news ++ reps z.cells.toList (grownCap w m 0 e - m)).toArray := by rw [zeroCells_eq]; simp
      rw [this]; exact hK
    | some a =>
        obtain ⟨o1, o2⟩ := rows_get hro
        have hr := run_append_grow (P := P) w t o.type e i z hu hi hz a n c olds o1 o2 b' m d news n1 n2 hlt (by omega) (growslice_fits hlt hbt)
        have hK := hgr2 (grownCap w (n + m) c e) (grownCap_ge w (n + m) c e) (grownCap_le_maxLen w (n + m) c e hml)
        refine upon_value (hex _ _ hr) (hn _ _ (drew_run _) ?_)
        have : olds.toArray ++ news.toArray ++ Builtin.zeroCells z.cells (grownCap w (n + m) c e - (n + m)) = (olds ++ news ++ reps z.cells.toList (grownCap w (n + m) c e - (n + m))).toArray := by rw [zeroCells_eq]; simp
        rw [this]; exact hK
theorem says_call {c : Call} (ho : o.op = .call c) (h : trCall P c = some k) : Says P o k := by
  obtain ⟨cal, args, ats⟩ := c
  unfold trCall at h
  simp only at h
  split at h <;> try (cases h; done)
  · split at h <;> try (cases h; done)
    rename_i x' t' hx ht
    have ea : args = #[x'] := by apply Array.toList_inj.1; simpa using hx
    have et : ats = #[t'] := by apply Array.toList_inj.1; simpa using ht
    subst ea et
    split at h <;> try (cases h; done)
    · rename_i hk
      have hu := kind_str hk
      cases h; intro ρ w hs; rw [exec_op ho]
      simp only [s1] at hs
      cases hx : ρ x' <;> simp only [hx, Bool.false_eq_true, isStr] at hs
      · rename_i s'
        have hz := Lib.size_eq s'
        simp [execOp, resolve, invoke, builtin, Builtin.len_, und hu, hx, v1, goInt, bl]
    · rename_i n hk
      obtain ⟨e, hu, hz⟩ := kind_slice hk
      cases h; intro ρ w hs; rw [exec_op ho]
      simp only [s1] at hs
      cases hx : ρ x' <;> simp only [hx, Bool.false_eq_true, isSl] at hs
      · simp [execOp, resolve, invoke, builtin, Builtin.len_, und hu, hx, v1, goInt]
    · split at h <;> cases h
      rename_i kt et hu
      intro G hG a w next Q K KP hf hn _
      simp only [List.map_cons, List.map_nil, fpre] at hf
      obtain ⟨l, hm, hK⟩ := hf
      have hex : (Builtin.len_ #[t'] o.type #[a.eval x']).run P w = .ok (.int .i64 l.length) w → o.wp P a w next Q := fun hv =>
        upon_value (w' := w) (by rw [exec_op ho]; simp [execOp, resolve, invoke, builtin, hv]) (hn _ _ (.refl w) hK)
      unfold mapAt at hm
      split at hm <;> try (exact hm.elim)
      · rename_i hx
        subst hm
        refine hex ?_
        simp [Builtin.len_, und hu, hx, goInt]
      · rename_i b hx
        obtain ⟨es, c, hb, rfl⟩ := hm
        refine hex ?_
        simp [Builtin.len_, und hu, hx, goInt, MapKept.run_getObj_map hb]
  · split at h <;> try (cases h; done)
    rename_i x' t' hx ht
    have ea : args = #[x'] := by apply Array.toList_inj.1; simpa using hx
    have et : ats = #[t'] := by apply Array.toList_inj.1; simpa using ht
    subst ea et
    split at h <;> try (cases h; done)
    rename_i n hk
    obtain ⟨e, hu, hz⟩ := kind_slice hk
    cases h; intro ρ w hs; rw [exec_op ho]
    simp only [s1] at hs
    cases hx : ρ x' <;> simp only [hx, Bool.false_eq_true, isSl] at hs
    simp [execOp, resolve, invoke, builtin, Builtin.cap_, und hu, hx, v1, goInt]
  · split at h <;> try (cases h; done)
    rename_i x' y' t' u' hx ht
    exact says_app (by apply Array.toList_inj.1; simpa using hx) (by apply Array.toList_inj.1; simpa using ht) ho h
  · split at h <;> try (cases h; done)
    rename_i x' y' hx
    have ea : args = #[x', y'] := by apply Array.toList_inj.1; simpa using hx
    subst ea
    cases h; intro ρ w hs; rw [exec_op ho]
    obtain ⟨h1, h2⟩ := hs
    cases hx : ρ x' <;> simp [hx, isInt] at h1
    cases hy : ρ y' <;> simp [hy, isInt] at h2
    simp only [execOp, resolve, invoke, builtin, Builtin.min_, Builtin.min2, hx, hy, v2, ti, tk, List.map_toArray, List.map_cons, List.map_nil, List.foldlM_cons, List.foldlM_nil, Sem.run_bind, Sem.run_pure, Result.andThen_ok]
    congr 3 <;> (split <;> rfl)
  · split at h <;> try (cases h; done)
    rename_i x' y' hx
    have ea : args = #[x', y'] := by apply Array.toList_inj.1; simpa using hx
    subst ea
    cases h; intro ρ w hs; rw [exec_op ho]
    obtain ⟨h1, h2⟩ := hs
    cases hx : ρ x' <;> simp [hx, isInt] at h1
    cases hy : ρ y' <;> simp [hy, isInt] at h2
    simp only [execOp, resolve, invoke, builtin, Builtin.max_, Builtin.max2, hx, hy, v2, ti, tk, List.map_toArray, List.map_cons, List.map_nil, List.foldlM_cons, List.foldlM_nil, Sem.run_bind, Sem.run_pure, Result.andThen_ok]
    congr 3 <;> (split <;> rfl)
  · rename_i f
    cases h
    intro G hG a w next Q K KP hf hn hp
    simp only [fpre] at hf
    refine call_wp ?_ (hG _ _ _ _ _ hf) hn hp
    rw [exec_op ho, map_eval]
    simp [execOp, resolve, Deferred.ofValue, Act.eval, invoke]
  · rename_i f hnf
    cases h
    intro G hG a w next Q K KP hf hn hp
    simp only [List.map_cons, fpre] at hf
    split at hf <;> try (exact hf.elim)
    rename_i g first cap hx
    refine call_wp ?_ (hG _ _ _ _ _ hf) hn hp
    rw [exec_op ho]
    have e : first ++ args.map a.eval ++ cap = (first.toList ++ List.map a.eval args.toList ++ cap.toList).toArray := by apply Array.toList_inj.1; simp
    rw [← e]
    simp [execOp, resolve, Deferred.ofValue, hx, invoke]
  · rename_i r name
    cases h
    intro G hG a w next Q K KP hf hn hp
    simp only [List.map_cons, fpre] at hf
    split at hf <;> try (exact hf.elim)
    rename_i t v hx
    split at hf <;> try (exact hf.elim)
    rename_i g hg
    refine call_wp ?_ (hG _ _ _ _ _ hf) hn hp
    rw [exec_op ho]
    have e : #[v] ++ args.map a.eval = (v :: List.map a.eval args.toList).toArray := by apply Array.toList_inj.1; simp
    have e2 : (#[Value.iface t v] ++ args.map a.eval)[0]? = some (Value.iface t v) := by rw [Array.getElem?_append_left (by simp)]; rfl
    have e3 : (#[Value.iface t v] ++ args.map a.eval).extract 1 (#[Value.iface t v] ++ args.map a.eval).size = args.map a.eval := by
      apply Array.toList_inj.1; simp; exact List.take_of_length_le (by simp)
    rw [← e]
    simp only [execOp, resolve, hx, invoke, e2, e3, Sem.run_bind, Sem.run_pure, Result.andThen_ok]
    simp only [callMethod, Sem.run_bind, run_program, Result.andThen_ok, run_method (tabM_spec hg)]

theorem orDead_some {z : Option K} (h : orDead z = some k) (hs : z = some k → Says P o k) : Says P o k := by
  cases z with
  | none => cases h; exact says_dead
  | some z => exact hs h
theorem says_pnc {x : Operand} (ho : o.op = .panic x) : Says P o (.ef .pnc [x]) := by
  intro G hG a w next Q K KP hf hn hp
  simp only [List.map_cons, List.map_nil, fpre] at hf
  split at hf
  · rename_i t v hx
    have : (execOp a.eval o).run P w = .halt (.panic (a.eval x)) w := by
      rw [exec_op ho]; simp [execOp, Instr.panic, goPanic, hx]
    unfold Oper.wp; rw [this]
    exact hp _ w (.refl w) hf
  · exact hf.elim
theorem says_mkm {t : TypeId} (ho : o.op = .makeMap t none) : Says P o (.ef .mkm []) := by
  intro G hG a w next Q K KP hf hn _
  simp only [fpre] at hf
  refine upon_value (w' := w.alloc (.map #[] 0)) (by rw [exec_op ho]; simp [execOp, Instr.makeMap]) (hn _ _ ⟨rfl, rfl, rfl⟩ hf)
theorem mapM_ex {α β : Type} {f : α → Option β} : ∀ {l : List α}, (∀ a ∈ l, ∃ b, f a = some b) → ∃ bs, l.mapM f = some bs
  | [], _ => ⟨[], rfl⟩
  | a :: l, h => by
    obtain ⟨b, hb⟩ := h a (by simp)
    obtain ⟨bs, hbs⟩ := mapM_ex (l := l) fun x hx => h x (by simp [hx])
    exact ⟨b :: bs, by simp [List.mapM_cons, hb, hbs]⟩
theorem mapM_at {α β : Type} {f : α → Option β} : ∀ {l : List α} {bs : List β}, l.mapM f = some bs → bs.length = l.length ∧ ∀ (i : Nat) (a : α), l[i]? = some a → ∃ b, f a = some b ∧ bs[i]? = some b
  | [], bs, h => by
    have : bs = [] := by simpa using h.symm
    subst this; exact ⟨rfl, fun i a ha => by simp at ha⟩
  | a :: l, bs, h => by
    rw [List.mapM_cons] at h
    cases hb : f a with
    | none => simp [hb] at h
    | some b =>
      cases hl : l.mapM f with
      | none => simp [hb, hl] at h
      | some r =>
        simp only [hb, hl, Option.bind_eq_bind, Option.bind_some, Option.pure_def, Option.some.injEq] at h
        subst h
        obtain ⟨h1, h2⟩ := mapM_at hl
        refine ⟨by simp [h1], fun i x hx => ?_⟩
        cases i with
        | zero => simp only [List.getElem?_cons_zero, Option.some.injEq] at hx; subst hx; exact ⟨b, hb, rfl⟩
        | succ i => simp only [List.getElem?_cons_succ] at hx ⊢; exact h2 i x hx
theorem kws_len : ∀ {ks : List Kc} {xs : List Value}, kwsOk ks xs = true → xs.length = ks.length
  | [], [], _ => rfl
  | _ :: ks, _ :: xs, h => by simp only [kwsOk, Bool.and_eq_true] at h; simp [kws_len h.2]
  | [], _ :: _, h => by simp [kwsOk] at h
  | _ :: _, [], h => by simp [kwsOk] at h
theorem kws_at : ∀ {ks : List Kc} {xs : List Value}, kwsOk ks xs = true → ∀ (i : Nat) (k : Kc), ks[i]? = some k → ∃ x, xs[i]? = some x ∧ kwOk k x = true
  | [], _, _, i, k, hk => by simp at hk
  | _ :: _, [], h, _, _, _ => by simp [kwsOk] at h
  | a :: ks, x :: xs, h, i, k, hk => by
    simp only [kwsOk, Bool.and_eq_true] at h
    cases i with
    | zero => simp only [List.getElem?_cons_zero, Option.some.injEq] at hk; subst hk; exact ⟨x, rfl, h.1⟩
    | succ i => simp only [List.getElem?_cons_succ] at hk ⊢; exact kws_at h.2 i k hk
theorem kc_lit {e : TypeId} {kc : Kc} (h : kcT P e = some kc) {v : Value} (hv : kwOk kc v = true) (D : Nat) : ∃ ls, P.keyLits (D + 1) e [v] = some ls := by
  unfold kcT at h
  split at h <;> cases h <;> rename_i hu
  · cases v <;> simp [kwOk] at hv
    obtain ⟨rfl, h2⟩ := hv
    exact ⟨_, by simp [Program.keyLits, hu, h2]; rfl⟩
  · cases v <;> simp [kwOk] at hv
    exact ⟨_, by simp [Program.keyLits, hu, hv]; rfl⟩
  · cases v <;> simp [kwOk] at hv
    exact ⟨_, by simp [Program.keyLits, hu]; rfl⟩
theorem drop_take1 {xs : List Value} {i : Nat} {x : Value} (h : xs[i]? = some x) : (xs.drop i).take 1 = [x] := by
  obtain ⟨hi, rfl⟩ := List.getElem?_eq_some_iff.1 h
  rw [List.drop_eq_getElem_cons hi]; rfl
theorem keyK_lit {kt : TypeId} {ks : List Kc} (h : keyK P kt = some ks) {v : Value} (hv : keyG ks v = true) : ∃ l, keyOf P kt v = some l := by
  unfold keyK at h
  split at h <;> try (cases h; done)
  rename_i hc
  obtain ⟨h1, h2, -, -, h5⟩ := hc
  cases v <;> simp only [keyG, Bool.false_eq_true] at hv
  rename_i xs
  obtain ⟨D, hD⟩ : ∃ D, P.types.size = D + 1 := ⟨P.types.size - 1, by omega⟩
  have hlen := kws_len hv
  split at h <;> try (cases h; done)
  · rename_i fs hu
    split at h <;> try (cases h; done)
    rename_i hq
    obtain ⟨q1, q2, q3, q4⟩ := hq
    obtain ⟨m1, m2⟩ := mapM_at h
    have hsz : xs.toList.length = P.cellsOf kt := by rw [q2, hlen, m1]
    have hex : ∃ ls, fs.toList.mapM (fun f => P.keyLits (D + 1) f.type ((xs.toList.drop f.offset).take (P.cellsOf f.type))) = some ls := by
      refine mapM_ex fun f hf => ?_
      obtain ⟨i, hi⟩ := List.getElem?_of_mem hf
      obtain ⟨kc, e1, e2⟩ := m2 i f hi
      obtain ⟨x, e3, e4⟩ := kws_at hv i kc e2
      have e5 : P.cellsOf f.type = 1 := by
        have := List.all_eq_true.1 q3 f hf
        simpa using this
      have e6 : f.offset = i := by
        have := congrArg (fun l : List Nat => l[i]?) q1
        simp only [List.getElem?_map, hi, Option.map_some] at this
        have hlt := (List.getElem?_eq_some_iff.1 hi).1
        rw [List.getElem?_range hlt] at this
        exact Option.some.inj this
      rw [e5, e6, drop_take1 e3]
      exact kc_lit e1 e4 D
    obtain ⟨ls, hls⟩ := hex
    refine ⟨.string (keyBytes ls.flatten), ?_⟩
    unfold keyOf
    simp only [hu]
    have hf : (Value.agg xs).formed P kt = true := by simp only [Value.formed, hu]; simpa using hsz
    rw [h2, hf, hD]
    unfold Program.keyLits
    simp only [hu, Value.cells, hsz, q4, hls, Bool.and_self, if_true, and_self, Option.map_some]
  · rename_i n e hu
    split at h <;> try (cases h; done)
    rename_i hq
    obtain ⟨q1, q2⟩ := hq
    obtain ⟨kc, e1, rfl⟩ := Option.map_eq_some_iff.1 h
    have hsz : xs.toList.length = P.cellsOf kt := by rw [q1, hlen, List.length_replicate]
    have hex : ∃ ls, (List.range n).mapM (fun i => P.keyLits (D + 1) e ((xs.toList.drop (i * P.cellsOf e)).take (P.cellsOf e))) = some ls := by
      refine mapM_ex fun i hi => ?_
      have hi' : i < n := List.mem_range.1 hi
      obtain ⟨x, e3, e4⟩ := kws_at hv i kc (by rw [List.getElem?_replicate, if_pos hi'])
      rw [q2, Nat.mul_one, drop_take1 e3]
      exact kc_lit e1 e4 D
    obtain ⟨ls, hls⟩ := hex
    refine ⟨.string (keyBytes ls.flatten), ?_⟩
    unfold keyOf
    simp only [hu]
    have hf : (Value.agg xs).formed P kt = true := by simp only [Value.formed, hu]; simpa using hsz
    rw [h2, hf, hD]
    unfold Program.keyLits
    simp only [hu, Value.cells, hsz, hls, Bool.and_self, if_true, Option.map_some]
theorem keyK_law {kt : TypeId} {ks : List Kc} (h : keyK P kt = some ks) : WideMaps.KeyLaw P kt := by
  unfold keyK at h
  split at h <;> try (cases h; done)
  rename_i hc
  exact deep_law (m := 3) (by decide) hc.2.2.1 hc.2.2.2.1 hc.1
theorem says_look {ok : Bool} (ho : o.op = .lookup t x y ok) (h : trLook P t x y ok = some k) : Says P o k := by
  unfold trLook at h
  split at h <;> try (cases h; done)
  rename_i kt et ht
  split at h <;> try (cases h; done)
  rename_i d z hd hz
  split at h
  case isFalse =>
    obtain ⟨ks, hks, rfl⟩ := Option.map_eq_some_iff.1 h
    have L := keyK_law hks
    intro G hG a w next Q K KP hf hn _
    simp only [List.map_cons, List.map_nil, fpre] at hf
    obtain ⟨l, hm, hk, hkl, hfo, hno⟩ := hf
    obtain ⟨lx, hlx⟩ := keyK_lit hks hk
    have hex : ∀ v, (Instr.lookup t (a.eval x) (a.eval y) ok).run P w = .ok v w → K v w.heap → o.wp P a w next Q := fun v hv hK =>
      upon_value (w' := w) (v := v) (by rw [exec_op ho]; simp [execOp, hv]) (hn _ _ (.refl w) hK)
    have hzv : (zeroValue et).run P w = .ok z w := by
      obtain ⟨i, hi, hz⟩ := Option.bind_eq_some_iff.1 hz
      simp [zeroValue, typeInfo, hi, hz]
    unfold mapAt at hm
    split at hm <;> try (exact hm.elim)
    · rename_i hx
      subst hm
      refine hex (lookV z ok false) ?_ (hno (fun e he => by cases he))
      rcases L.find w hlx [] (fun e he => by cases he) with ⟨h1, -⟩ | ⟨j, e, -, h2, -⟩
      · simp [Instr.lookup, run_underlying ht, hx, L.check w _ hlx, h1, hzv, lookV]
      · simp at h2
    · rename_i b hx
      obtain ⟨es, c, hb, rfl⟩ := hm
      rcases L.find w hlx es.toList (fun e he => keyK_lit hks (hkl e he)) with ⟨h1, h2⟩ | ⟨j, e, h1, h2, h3⟩
      · refine hex (lookV z ok false) ?_ (hno h2)
        simp [Instr.lookup, run_underlying ht, hx, MapKept.run_getObj_map hb, L.check w _ hlx, h1, hzv, lookV]
      · refine hex (lookV e.val ok true) ?_ (hfo e (List.mem_of_getElem? h2) h3)
        simp [Instr.lookup, run_underlying ht, hx, MapKept.run_getObj_map hb, L.check w _ hlx, h1, lookV]
  cases h
  intro G hG a w next Q K KP hf hn _
  simp only [List.map_cons, List.map_nil, fpre] at hf
  obtain ⟨l, hm, hk, hks, hfo, hno⟩ := hf
  have hex : ∀ v, (Instr.lookup t (a.eval x) (a.eval y) ok).run P w = .ok v w → K v w.heap → o.wp P a w next Q := fun v hv hK =>
    upon_value (w' := w) (v := v) (by rw [exec_op ho]; simp [execOp, hv]) (hn _ _ (.refl w) hK)
  have hzv : (zeroValue et).run P w = .ok z w := by
    obtain ⟨i, hi, hz⟩ := Option.bind_eq_some_iff.1 hz
    simp [zeroValue, typeInfo, hi, hz]
  unfold mapAt at hm
  split at hm <;> try (exact hm.elim)
  · rename_i hx
    subst hm
    refine hex (lookV z ok false) ?_ (hno (fun e he => by cases he))
    have h0 : Instr.findNow d (a.eval y) [] 0 = some none := rfl
    have h1 := MapKept.run_findKey (w := w) hd h0
    simp [Instr.lookup, run_underlying ht, hx, MapKept.run_checkKey hd hk, h1, hzv, lookV]
  · rename_i b hx
    obtain ⟨es, c, hb, rfl⟩ := hm
    rcases MapKept.findNow_spec hk es.toList 0 hks with ⟨h1, h2⟩ | ⟨j, e, h1, h2, h3⟩
    · refine hex (lookV z ok false) ?_ (hno h2)
      simp [Instr.lookup, run_underlying ht, hx, MapKept.run_getObj_map hb, MapKept.run_checkKey hd hk, MapKept.run_findKey hd h1, hzv, lookV]
    · refine hex (lookV e.val ok true) ?_ (hfo e (List.mem_of_getElem? h2) h3)
      simp [Instr.lookup, run_underlying ht, hx, MapKept.run_getObj_map hb, MapKept.run_checkKey hd hk, MapKept.run_findKey hd h1, lookV]
theorem says_put {z : Operand} (ho : (o.op = .mapUpdate t x y z) ∨ (o.op = .insert t x y z)) (h : trPut P t x y z = some k) : Says P o k := by
  unfold trPut at h
  split at h <;> try (cases h; done)
  rename_i kt et ht
  split at h <;> try (cases h; done)
  rename_i d hd
  split at h
  case isFalse =>
    obtain ⟨ks, hks, rfl⟩ := Option.map_eq_some_iff.1 h
    have L := keyK_law hks
    intro G hG a w next Q K KP hf hn _
    simp only [List.map_cons, List.map_nil, fpre] at hf
    obtain ⟨b, es, c, hx, hb, hk, hkl, hfo, hno⟩ := hf
    obtain ⟨lx, hlx⟩ := keyK_lit hks hk
    have hex : ∀ w', (Instr.mapUpdate t (a.eval x) (a.eval y) (a.eval z)).run P w = .ok () w' → Keep w w' → K undef w'.heap → o.wp P a w next Q := fun w' hv hkp hK => by
      have : (execOp a.eval o).run P w = .ok .skip w' := by
        rcases ho with ho | ho <;> (rw [exec_op ho]; simp [execOp, hv])
      unfold Oper.wp; rw [this]
      exact hn undef w' hkp hK
    rcases L.find w hlx es.toList (fun e he => keyK_lit hks (hkl e he)) with ⟨h1, h2⟩ | ⟨j, e, h1, h2, h3⟩
    · refine hex { w with heap := w.heap.setIfInBounds b (.map (es.push { key := a.eval y, val := a.eval z, born := c }) (c + 1)) } ?_ ⟨rfl, rfl, rfl⟩ (hno h2)
      simp [Instr.mapUpdate, run_underlying ht, hx, MapKept.run_getObj_map hb, L.check w _ hlx, h1, MapKept.run_setObj_map _ hb, Result.andThen]
    · have hj : es[j]? = some e := by simpa using h2
      refine hex { w with heap := w.heap.setIfInBounds b (.map (es.modify j fun e => { e with key := a.eval y, val := a.eval z }) c) } ?_ ⟨rfl, rfl, rfl⟩ (hfo j e hj h3)
      simp [Instr.mapUpdate, run_underlying ht, hx, MapKept.run_getObj_map hb, L.check w _ hlx, h1, hj, h3, L.stays w hlx, MapKept.run_setObj_map _ hb, Result.andThen]
  cases h
  intro G hG a w next Q K KP hf hn _
  simp only [List.map_cons, List.map_nil, fpre] at hf
  obtain ⟨b, es, c, hx, hb, hk, hks, hfo, hno⟩ := hf
  have hex : ∀ w', (Instr.mapUpdate t (a.eval x) (a.eval y) (a.eval z)).run P w = .ok () w' → Keep w w' → K undef w'.heap → o.wp P a w next Q := fun w' hv hkp hK =>
by
    have : (execOp a.eval o).run P w = .ok .skip w' := by
      rcases ho with ho | ho <;> (rw [exec_op ho]; simp [execOp, hv])
    unfold Oper.wp; rw [this]
    exact hn undef w' hkp hK
  rcases MapKept.findNow_spec hk es.toList 0 hks with ⟨h1, h2⟩ | ⟨j, e, h1, h2, h3⟩
  · refine hex { w with heap := w.heap.setIfInBounds b (.map (es.push { key := a.eval y, val := a.eval z, born := c }) (c + 1)) } ?_ ⟨rfl, rfl, rfl⟩ (hno h2)
    simp [Instr.mapUpdate, run_underlying ht, hx, MapKept.run_getObj_map hb, MapKept.run_checkKey hd hk, MapKept.run_findKey hd h1, MapKept.run_setObj_map _ hb, Result.andThen]
  · have hj : es[j]? = some e := by simpa using h2
    refine hex { w with heap := w.heap.setIfInBounds b (.map (es.modify j fun e => { e with key := a.eval y, val := a.eval z }) c) } ?_ ⟨rfl, rfl, rfl⟩ (hfo j e hj h3)
    simp [Instr.mapUpdate, run_underlying ht, hx, MapKept.run_getObj_map hb, MapKept.run_checkKey hd hk, MapKept.run_findKey hd h1, hj, h3, MapKept.run_keyThatStays hk, MapKept.run_setObj_map _ hb, Result.andThen]
theorem tr_says (h : tr P o = some k) : Says P o k := by
  cases ho : o.op <;> simp only [tr, ho] at h <;> try (cases h; exact says_dead)
  case move => exact says_move ho h
  case assign => cases h; exact says_asg ho
  case pick => exact says_pick ho h
  case nilCheck => exact says_nil ho h
  case fieldAddr => exact orDead_some h (says_fieldAddr ho)
  case load => exact orDead_some h (says_load ho)
  case binOp =>
    split at h
    · rename_i k' hk; cases h; exact says_bin ho hk
    · exact orDead_some h (says_bin2 ho)
  case unOp => exact orDead_some h (says_un ho)
  case convert => exact orDead_some h (says_conv ho)
  case extract => cases h; exact says_ext ho
  case field => exact orDead_some h (says_field ho)
  case index => exact orDead_some h (says_index ho)
  case indexAddr => exact orDead_some h (says_indexAddr ho)
  case slice => exact orDead_some h (says_slice ho)
  case build => exact orDead_some h (says_build ho)
  case call => exact orDead_some h (says_call ho)
  case box => cases h; exact says_box ho
  case buildSlice => exact orDead_some h (says_bsl ho)
  case makeSlice => exact orDead_some h (says_mks ho)
  case makeInterface => exact orDead_some h (says_mki ho)
  case makeFunc => cases h; exact says_mkf ho
  case makeMap t r =>
    cases r with
    | none => cases h; exact says_mkm ho
    | some r => cases h; exact says_dead
  case lookup => exact orDead_some h (says_look ho)
  case mapUpdate => exact orDead_some h (says_put (.inl ho))
  case insert => exact orDead_some h (says_put (.inr ho))
  case panic => cases h; exact says_pnc ho
  case alloc => exact orDead_some h (says_alloc ho)
  case store => exact orDead_some h (says_store ho)
end
end Go.Ev

