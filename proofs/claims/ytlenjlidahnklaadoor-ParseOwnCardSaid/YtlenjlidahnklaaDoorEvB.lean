/- The layer, second part: a function's code turned into small statements by a closed computation, whatever order a region draws; contracts from them; rules for simp. -/
import Derived.Test.YtlenjlidahnklaaDoorEvA
import Derived.Scope
import Derived.WalkMore
namespace Go.Ev

/-! ### Expressions -/
inductive E where
  | t (n : Nat) | c (v : Value) | o1 (q : Q1) (a : E) | o2 (q : Q2) (a b : E) | o3 (q : Q3) (a b c : E)
  deriving Inhabited
def val : E → Env → H → Value
  | .t n, σ, _ => σ n
  | .c v, _, _ => v
  | .o1 q a, σ, h => v1 q (val a σ h) h
  | .o2 q a b, σ, h => v2 q (val a σ h) (val b σ h) h
  | .o3 q a b c, σ, h => v3 q (val a σ h) (val b σ h) (val c σ h) h
/-- Does it look at the heap? -/
def dep1 : Q1 → Bool | .ld1 | .ldn _ => true | _ => false
def dep : E → Bool
  | .t _ | .c _ => false
  | .o1 q a => dep1 q || dep a
  | .o2 _ a b => dep a || dep b
  | .o3 _ a b c => dep a || dep b || dep c
def ment (n : Nat) : E → Bool
  | .t m => m == n
  | .c _ => false
  | .o1 _ a => ment n a
  | .o2 _ a b => ment n a || ment n b
  | .o3 _ a b c => ment n a || ment n b || ment n c
def upd (σ : Env) (d : Nat) (v : Value) : Env := fun i => if i = d then v else σ i
def updo (σ : Env) (d : Option Nat) (v : Value) : Env := match d with | some d => upd σ d v | none => σ

theorem dep1_ok {q : Q1} (h : dep1 q = false) (x : Value) (h1 h2 : H) : v1 q x h1 = v1 q x h2 := by cases q <;> first | rfl | cases h
theorem v2_ok (q : Q2) (x y : Value) (h1 h2 : H) : v2 q x y h1 = v2 q x y h2 := by cases q <;> rfl
theorem v3_ok (q : Q3) (x y z : Value) (h1 h2 : H) : v3 q x y z h1 = v3 q x y z h2 := by cases q <;> rfl
theorem dep_ok {e : E} (hd : dep e = false) (σ : Env) (h1 h2 : H) : val e σ h1 = val e σ h2 := by
  induction e with
  | t => rfl
  | c => rfl
  | o1 q a ih => simp only [dep, Bool.or_eq_false_iff] at hd; simp only [val, ih hd.2]; exact dep1_ok hd.1 _ _ _
  | o2 q a b iha ihb => simp only [dep, Bool.or_eq_false_iff] at hd; simp only [val, iha hd.1, ihb hd.2]; exact v2_ok _ _ _ _ _
  | o3 q a b c iha ihb ihc => simp only [dep, Bool.or_eq_false_iff] at hd; simp only [val, iha hd.1.1, ihb hd.1.2, ihc hd.2]; exact v3_ok _ _ _ _ _ _
theorem ment_ok {e : E} {d : Nat} (hm : ment d e = false) (σ : Env) (v : Value) (h : H) : val e (upd σ d v) h = val e σ h := by
  induction e with
  | t m => simp only [ment, beq_eq_false_iff_ne] at hm; simp [val, upd, hm]
  | c => rfl
  | o1 q a ih => simp only [ment] at hm; simp only [val, ih hm]
  | o2 q a b iha ihb => simp only [ment, Bool.or_eq_false_iff] at hm; simp only [val, iha hm.1, ihb hm.2]
  | o3 q a b c iha ihb ihc => simp only [ment, Bool.or_eq_false_iff] at hm; simp only [val, iha hm.1.1, ihb hm.1.2, ihc hm.2]

/-! ### Small statements -/
inductive Chk where
  | c1 (q : Q1) (a : E) | c2 (q : Q2) (a b : E) | c3 (q : Q3) (a b c : E) | cb (size : Nat) (ps : List (Nat × Nat × E))
  deriving Inhabited
def chkP : Chk → Env → H → Prop
  | .c1 q a, σ, h => s1 q (val a σ h) h
  | .c2 q a b, σ, h => s2 q (val a σ h) (val b σ h) h
  | .c3 q a b c, σ, h => s3 q (val a σ h) (val b σ h) (val c σ h) h
  | .cb n ps, σ, h => ∀ p ∈ ps, (val p.2.2 σ h).cells.size = p.2.1 ∧ p.1 + p.2.1 ≤ n
abbrev Gs := List (E × Bool)
def gsOk (gs : Gs) (σ : Env) (h : H) : Bool := gs.all fun p => isB (val p.1 σ h) p.2
/-- The cells that a load at p looked at are in h' as they were in h. -/
def sameC (p : Value) (n : Option Nat) (h h' : H) : Prop := match p with
  | .pointer (some ⟨b, o, none⟩) => match n with
    | none => o < hsz h' b ∧ hv h' b o = hv h b o
    | some n => o + n ≤ hsz h' b ∧ hvs h' b o n = hvs h b o n
  | _ => True
/-- Loads that were made ahead of an effect, and might have been made behind it: under which guards, the address, how many cells (none: one). -/
abbrev Stab := List (Gs × E × Option Nat)
def stabP (l : Stab) (σ : Env) (h h' : H) : Prop := ∀ p ∈ l, gsOk p.1 σ h = true → sameC (val p.2.1 σ h) p.2.2 h h'
inductive St where
  | set (d : Nat) (e : E) | chk (gs : Gs) (c : Chk) | eff (gs : Gs) (d : Option Nat) (f : F) (xs : List E) (st : Stab)
  deriving Inhabited
def wpSt (G : Ctr) (s : St) (K : Env → H → Prop) (KP : List PanicEntry → H → Prop) (σ : Env) (h : H) : Prop := match s with
  | .set d e => K (upd σ d (val e σ h)) h
  | .chk gs c => (gsOk gs σ h = true → chkP c σ h) ∧ K σ h
  | .eff gs d f xs st => (gsOk gs σ h = true → fpre G f (xs.map fun e => val e σ h) h (fun v h' => stabP st σ h h' ∧ K (updo σ d v) h') KP) ∧
      (gsOk gs σ h = false → K (updo σ d undef) h)
def wpSts (G : Ctr) (l : List St) (K : Env → H → Prop) (KP : List PanicEntry → H → Prop) (σ : Env) (h : H) : Prop := match l with
  | [] => K σ h
  | s :: r => wpSt G s (wpSts G r K KP) KP σ h
theorem wpSts_append {G : Ctr} {K : Env → H → Prop} {KP : List PanicEntry → H → Prop} : ∀ (l r : List St) (σ : Env) (h : H), wpSts G (l ++ r) K KP σ h = wpSts G l (wpSts G r K KP) KP σ h
  | [], _, _, _ => rfl
  | s :: l, r, σ, h => by
    simp only [List.cons_append, wpSts]
    congr 1
    funext σ' h'
    exact wpSts_append l r σ' h'

/-! ### From operations to statements -/
structure Pend where
  t : Nat
  e : E
  g : List (Nat × Bool)
def find (δ : List Pend) (t : Nat) : Option Pend := δ.find? fun p => p.t == t
def opE (lv : Nat → Bool) (δ : List Pend) (g : List (Nat × Bool)) : Operand → Option E
  | .tmp t => if lv t then some (.t t) else match find δ t with
    | some p => if p.g.all (g.contains ·) then some p.e else none
    | none => none
  | .const v => some (.c v)
  | .global n => some (.c (.pointer (some ⟨n, 0, none⟩)))
  | .func f => some (.c (.func (.func f) #[] #[]))
def opEs (lv : Nat → Bool) (δ : List Pend) (g : List (Nat × Bool)) : List Operand → Option (List E)
  | [] => some []
  | x :: r => match opE lv δ g x, opEs lv δ g r with
    | some e, some l => some (e :: l)
    | _, _ => none
def partE (lv : Nat → Bool) (δ : List Pend) (g : List (Nat × Bool)) : List (Nat × Nat × Operand) → Option (List (Nat × Nat × E))
  | [] => some []
  | (o, n, x) :: r => match opE lv δ g x, partE lv δ g r with
    | some e, some l => some ((o, n, e) :: l)
    | _, _ => none
/-- The guards' trees, the newest first. -/
def gTrees (δ : List Pend) : List (Nat × Bool) → Option Gs
  | [] => some []
  | (s, b) :: r => match find δ s, gTrees δ r with
    | some p, some l => some ((p.e, b) :: l)
    | _, _ => none
/-- Each guard's own guards are those behind it. -/
def chainB (δ : List Pend) : List (Nat × Bool) → Bool
  | [] => true
  | (s, _) :: r => (match find δ s with | some p => decide (p.g = r) | none => false) && chainB δ r
def guardOf (ops : Array Oper) (δ : List Pend) (o : Oper) : Option (List (Nat × Bool)) := match o.guard with
  | none => some []
  | some (j, want) => match (ops[j]?).bind (·.dst) with
    | some s => match find δ s with
      | some p => some ((s, want) :: p.g)
      | none => none
    | none => none
def bldE (z : Array Value) (ps : List (Nat × Nat × E)) : E := ps.foldl (fun a p => .o2 (.put p.1 p.2.1) a p.2.2) (.c (.agg z))

/-- A quiet operation: its checks and its tree. -/
def quietE (lv : Nat → Bool) (δ : List Pend) (g : List (Nat × Bool)) : K → Option (Option Chk × E)
  | .q1 .id x => (opE lv δ g x).map fun a => (none, a)
  | .q1 .nilck x => (opE lv δ g x).map fun a => (some (.c1 .nilck a), a)
  | .q1 q x => (opE lv δ g x).map fun a => (some (.c1 q a), .o1 q a)
  | .q2 q x y => match opE lv δ g x, opE lv δ g y with
    | some a, some b => some (some (.c2 q a b), .o2 q a b)
    | _, _ => none
  | .q3 .pick (.tmp c) x y => match opE lv δ g (.tmp c), opE lv δ ((c, true) :: g) x, opE lv δ ((c, false) :: g) y with
    | some a, some b, some d => some (some (.c3 .pick a b d), .o3 .pick a b d)
    | _, _, _ => none
  | .q3 .pick _ _ _ => none
  | .q3 q x y z => match opE lv δ g x, opE lv δ g y, opE lv δ g z with
    | some a, some b, some c => some (some (.c3 q a b c), .o3 q a b c)
    | _, _, _ => none
  | .bld z ps => (partE lv δ g ps).map fun l => (some (.cb z.size l), bldE z l)
  | .asg x => (opE lv δ g x).map fun a => (none, a)
  | .ef _ _ => none

/-- The trees that would turn are laid down first. -/
def lay1 (turns : E → Bool) : List Pend → List St × List Pend
  | [] => ([], [])
  | p :: r => if turns p.e then (.set p.t p.e :: (lay1 turns r).1, ⟨p.t, .t p.t, p.g⟩ :: (lay1 turns r).2) else ((lay1 turns r).1, p :: (lay1 turns r).2)
def lay (turns : E → Bool) (δ : List Pend) : Option (List St × List Pend) :=
  if δ.all (fun p => !turns p.e || δ.all fun q => !ment p.t q.e) then some (lay1 turns δ) else none
def trim (later : Nat → Bool) (δ : List Pend) : Option (List Pend) :=
  if (δ.filter fun p => later p.t).all (fun p => chainB (δ.filter fun p => later p.t) p.g) then some (δ.filter fun p => later p.t) else none
def chks (gs : Gs) : Option Chk → List St
  | none => []
  | some c => [.chk gs c]
/-- One quiet operation. -/
def compQ (P : Program) (lv : Nat → Bool) (N : Nat) (ops : Array Oper) (δ : List Pend) (later : Nat → Bool) (o : Oper) (k : K) : Option (List St × List Pend) :=
  match o.dst with
  | none => none
  | some d => if lv d then
      match o.guard, lay (ment d) δ with
      | none, some (l, δ1) => match quietE lv δ1 [] k with
        | some (c, e) => if d < N && δ1.all (fun p => !ment d p.e) then (trim later δ1).map fun δ2 => (l ++ chks [] c ++ [.set d e], δ2) else none
        | none => none
      | _, _ => none
    else match guardOf ops δ o with
      | some g => match gTrees δ g, quietE lv δ g k with
        | some gs, some (c, e) => if d < N && (find δ d).isNone then (trim later (⟨d, e, g⟩ :: δ)).map fun δ2 => (chks gs c, δ2) else none
        | _, _ => none
      | none => none
abbrev Tau := List (Operand × List (Nat × Bool) × Option Nat)
def stabE (lv : Nat → Bool) (δ : List Pend) : Tau → Option Stab
  | [] => some []
  | (x, g, n) :: r => match gTrees δ g, opE lv δ g x, stabE lv δ r with
    | some gs, some e, some l => if chainB δ g then some ((gs, e, n) :: l) else none
    | _, _, _ => none
/-- One operation that acts. -/
def compF (P : Program) (lv : Nat → Bool) (N : Nat) (ops : Array Oper) (δ : List Pend) (later : Nat → Bool) (tau : Tau) (o : Oper) (f : F) (xs : List Operand) : Option (List St × List Pend) :=
  match lay dep δ with
  | none => none
  | some (l, δ1) => match guardOf ops δ1 o with
    | none => none
    | some g => match gTrees δ1 g, opEs lv δ1 g xs, stabE lv δ1 tau with
      | some gs, some es, some st => match o.dst with
        | none => (trim later δ1).map fun δ2 => (l ++ [.eff gs none f es st], δ2)
        | some d => if lv d then
            if g.isEmpty && decide (d < N) && δ1.all (fun p => !ment d p.e) then (trim later δ1).map fun δ2 => (l ++ [.eff gs (some d) f es st], δ2) else none
          else if d < N && (find δ1 d).isNone && δ1.all (fun p => !ment d p.e) then (trim later (⟨d, .t d, g⟩ :: δ1)).map fun δ2 => (l ++ [.eff gs (some d) f es st], δ2) else none
      | _, _, _ => none

/-! ### The tie between a frame and the small statements -/
def gh (a : Act) (g : List (Nat × Bool)) : Bool := g.all fun p => isB (a.tmps.getD p.1 undef) p.2
/-- What the frame has deferred: nothing, but in a function that recovers. -/
abbrev DS := OfNat (List Deferred) 77
abbrev DS.d [DS] : List Deferred := OfNat.ofNat 77
structure Rel [DS] (lv : Nat → Bool) (N : Nat) (a : Act) (σ : Env) (h : H) (δ : List Pend) : Prop where
  lvs : ∀ i, lv i = true → a.tmps.getD i undef = σ i
  sz : a.tmps.size = N
  df : a.defers = DS.d
  pend : ∀ t p, find δ t = some p → gh a p.g = true → a.tmps.getD t undef = val p.e σ h
  skip : ∀ t p, find δ t = some p → gh a p.g = false → a.tmps.getD t undef = undef
  chain : ∀ t p, find δ t = some p → chainB δ p.g = true
  nlv : ∀ t p, find δ t = some p → lv t = false
  nd : (δ.map (·.t)).Nodup
section
set_option linter.unusedVariables false
variable {P : Program} {lv : Nat → Bool} {N : Nat} {ops : Array Oper} {δ : List Pend} {a : Act} {σ : Env} {h : H} {o : Oper} {g : List (Nat × Bool)} {gs : Gs} {e : E} {x : Operand}

theorem gTrees_ok [DS] (R : Rel lv N a σ h δ) : ∀ (g : List (Nat × Bool)) (gs : Gs), chainB δ g = true → gTrees δ g = some gs → gsOk gs σ h = gh a g
  | [], gs, _, hg => by cases hg; rfl
  | (s, b) :: r, gs, hc, hg => by
    simp only [chainB, Bool.and_eq_true] at hc
    simp only [gTrees] at hg
    cases hf : find δ s with
    | none => simp [hf] at hg
    | some p =>
      cases hr : gTrees δ r with
      | none => simp [hf, hr] at hg
      | some l =>
        simp only [hf, hr, Option.some.injEq] at hg
        subst hg
        have hp : p.g = r := by simpa [hf] using hc.1
        have ih := gTrees_ok R r l hc.2 hr
        show (isB (val p.e σ h) b && gsOk l σ h) = (isB (a.tmps.getD s undef) b && gh a r)
        rw [ih]
        cases hb : gh a r with
        | false => simp
        | true => rw [R.pend s p hf (by rw [hp]; exact hb)]
theorem opE_ok [DS] (R : Rel lv N a σ h δ) (hg : gh a g = true) (hx : opE lv δ g x = some e) : a.eval x = val e σ h := by
  cases x with
  | tmp t =>
    simp only [opE] at hx
    split at hx
    · rename_i hl; cases hx; exact R.lvs t hl
    · split at hx <;> try (cases hx; done)
      rename_i p hf
      split at hx <;> cases hx
      rename_i hall
      refine R.pend t p hf ?_
      simp only [gh, List.all_eq_true] at hg ⊢
      intro q hq
      exact hg q (by have := (List.all_eq_true.1 hall) q hq; simpa using this)
  | const v => cases hx; rfl
  | global n => cases hx; rfl
  | func f => cases hx; rfl
theorem opEs_ok [DS] (R : Rel lv N a σ h δ) (hg : gh a g = true) : ∀ (xs : List Operand) (es : List E), opEs lv δ g xs = some es → xs.map a.eval = es.map fun e => val e σ h
  | [], es, hx => by cases hx; rfl
  | x :: r, es, hx => by
    simp only [opEs] at hx
    split at hx <;> cases hx
    rename_i e l h1 h2
    simp [opE_ok R hg h1, opEs_ok R hg r l h2]
theorem partE_ok [DS] (R : Rel lv N a σ h δ) (hg : gh a g = true) : ∀ (ps : List (Nat × Nat × Operand)) (es : List (Nat × Nat × E)), partE lv δ g ps = some es →
    ps.map (fun p => (p.1, p.2.1, a.eval p.2.2)) = es.map fun p => (p.1, p.2.1, val p.2.2 σ h)
  | [], es, hx => by cases hx; rfl
  | (o, n, x) :: r, es, hx => by
    simp only [partE] at hx
    split at hx <;> cases hx
    rename_i e l h1 h2
    simp [opE_ok R hg h1, partE_ok R hg r l h2]
theorem bldE_val : ∀ (es : List (Nat × Nat × E)) (z : Array Value) (e0 : E), val e0 σ h = .agg z →
    val (es.foldl (fun a p => .o2 (.put p.1 p.2.1) a p.2.2) e0) σ h = .agg ((es.map fun p => (p.1, p.2.1, val p.2.2 σ h)).foldl (fun cs p => putv cs p.1 p.2.2) z)
  | [], z, e0, h0 => h0
  | p :: r, z, e0, h0 => by
    simp only [List.foldl_cons, List.map_cons]
    exact bldE_val r (putv z p.1 (val p.2.2 σ h)) _ (by simp only [val, h0, v2])
def chkO (c : Option Chk) (σ : Env) (h : H) : Prop := match c with | none => True | some c => chkP c σ h
/-- Is it a load, and of what? -/
def kload : K → Option (Operand × Option Nat)
  | .q1 .ld1 x => some (x, none)
  | .q1 (.ldn n) x => some (x, some n)
  | _ => none
def kcond (k : K) (a : Act) (h h' : H) : Prop := match kload k with | none => True | some (x, n) => sameC (a.eval x) n h h'
theorem sameC_refl {p : Value} {n : Option Nat} {h : H} {q : Q1} (hq : q = match n with | none => .ld1 | some n => .ldn n) (hs : s1 q p h) : sameC p n h h := by
  subst hq
  unfold sameC
  split <;> try trivial
  cases n <;> simp_all [s1]
theorem kcond_refl [DS] {k : K} {c : Option Chk} (R : Rel lv N a σ h δ) (hg : gh a g = true) (hq : quietE lv δ g k = some (c, e)) (hc : chkO c σ h) : kcond k a h h := by
  unfold kcond kload
  split
  · trivial
  · rename_i x' n hk
    split at hk <;> cases hk
    · simp only [quietE, Option.map_eq_some_iff, Prod.mk.injEq] at hq
      obtain ⟨e', he, rfl, rfl⟩ := hq
      simp only [chkO, chkP] at hc
      rw [← opE_ok R hg he] at hc
      exact sameC_refl rfl hc
    · simp only [quietE, Option.map_eq_some_iff, Prod.mk.injEq] at hq
      obtain ⟨e', he, rfl, rfl⟩ := hq
      simp only [chkO, chkP] at hc
      rw [← opE_ok R hg he] at hc
      exact sameC_refl rfl hc
theorem s1_ok {q : Q1} (h : dep1 q = false) {x : Value} {h1 h2 : H} (hs : s1 q x h1) : s1 q x h2 := by cases q <;> first | exact hs | cases h
theorem s2_ok {q : Q2} {x y : Value} {h1 h2 : H} (hs : s2 q x y h1) : s2 q x y h2 := by cases q <;> exact hs
theorem s3_ok {q : Q3} {x y z : Value} {h1 h2 : H} (hs : s3 q x y z h1) : s3 q x y z h2 := by cases q <;> exact hs

theorem quietE_ok [DS] (R : Rel lv N a σ h δ) (hg : gh a g = true) {k : K} {c : Option Chk} (hs : Says P o k) (hq : quietE lv δ g k = some (c, e)) (hc : chkO c σ h) (w : World) (hw : kcond k a h w.heap) :
    (execOp a.eval o).run P w = .ok (.value (val e σ h)) w := by
  cases k with
  | ef f xs => cases hq
  | asg x =>
    simp only [quietE, Option.map_eq_some_iff, Prod.mk.injEq] at hq
    obtain ⟨e', he, rfl, rfl⟩ := hq
    rw [← opE_ok R hg he]; exact hs a.eval w
  | bld z ps =>
    simp only [quietE, Option.map_eq_some_iff, Prod.mk.injEq] at hq
    obtain ⟨es, he, rfl, rfl⟩ := hq
    have hm := partE_ok R hg ps es he
    have hc' : ∀ p ∈ es.map (fun p => (p.1, p.2.1, val p.2.2 σ h)), p.2.2.cells.size = p.2.1 ∧ p.1 + p.2.1 ≤ z.size := by
      intro p hp; obtain ⟨q, hq, rfl⟩ := List.mem_map.1 hp; exact hc q hq
    rw [← hm] at hc'
    have := hs a.eval w (fun p hp => hc' _ (List.mem_map.2 ⟨p, hp, rfl⟩))
    rw [this, bldE, bldE_val es z _ rfl, ← hm, List.foldl_map]
  | q1 q x =>
    have gen : ∀ a', opE lv δ g x = some a' → s1 q (val a' σ h) h → (execOp a.eval o).run P w = .ok (.value (v1 q (val a' σ h) h)) w := by
      intro a' he hc
      have e1 := opE_ok R hg he
      rw [← e1] at hc ⊢
      by_cases hd : dep1 q = false
      · rw [dep1_ok hd _ h w.heap]; exact hs a.eval w (s1_ok hd hc)
      · have key : s1 q (a.eval x) w.heap ∧ v1 q (a.eval x) w.heap = v1 q (a.eval x) h := by
          cases q <;> simp only [dep1, not_true_eq_false] at hd
          all_goals
            simp only [kcond, kload] at hw
            simp only [s1] at hc
            split at hc <;> try (exact hc.elim)
            rename_i b o' hx
            rw [hx] at hw ⊢
            simp only [sameC] at hw
            simp only [s1, v1]
            exact ⟨hw.1, by rw [hw.2]⟩
        rw [← key.2]; exact hs a.eval w key.1
    cases q <;> simp only [quietE, Option.map_eq_some_iff, Prod.mk.injEq] at hq <;> obtain ⟨a', he, rfl, rfl⟩ := hq
    case id => exact gen a' he trivial
    all_goals exact gen a' he hc
  | q2 q x y =>
    simp only [quietE] at hq
    split at hq <;> cases hq
    rename_i a1 b1 h1 h2
    have e1 := opE_ok R hg h1; have e2 := opE_ok R hg h2
    simp only [chkO, chkP] at hc
    simp only [val]
    rw [← e1, ← e2] at hc ⊢
    rw [v2_ok q _ _ h w.heap]
    exact hs a.eval w (s2_ok hc)
  | q3 q x y z =>
    have gen : q ≠ .pick → (execOp a.eval o).run P w = .ok (.value (val e σ h)) w := by
      intro hne
      cases q <;> simp only [ne_eq, not_true_eq_false] at hne <;> simp only [quietE] at hq <;> split at hq <;> cases hq
      all_goals
        rename_i a1 b1 c1 h1 h2 h3
        have e1 := opE_ok R hg h1; have e2 := opE_ok R hg h2; have e3 := opE_ok R hg h3
        simp only [chkO, chkP] at hc
        simp only [val]
        rw [← e1, ← e2, ← e3] at hc ⊢
        rw [v3_ok _ _ _ _ h w.heap]
        exact hs a.eval w (s3_ok hc)
    cases q with
    | pick =>
      cases x <;> simp only [quietE] at hq <;> try (cases hq; done)
      rename_i c
      split at hq <;> cases hq
      rename_i a1 b1 c1 h1 h2 h3
      have e1 := opE_ok R hg h1
      simp only [chkO, chkP] at hc
      rw [← e1] at hc
      have := hs a.eval w hc
      rw [this]
      simp only [val, v3]
      rw [← e1]
      simp only [s3] at hc
      have key : ∀ b, a.eval (.tmp c) = .bool b → gh a ((c, b) :: g) = true := by
        intro b hb
        simp only [Act.eval] at hb
        simp only [gh, List.all_cons, Bool.and_eq_true]
        exact ⟨by rw [hb]; simp [isB], hg⟩
      cases hv : a.eval (.tmp c) <;> simp [hv, isBool] at hc
      rename_i b
      cases b
      · simp only [tb, Bool.false_eq_true, if_false]; rw [opE_ok R (key false hv) h3]
      · simp only [tb, if_true]; rw [opE_ok R (key true hv) h2]
    | _ => exact gen (by simp)
theorem stabE_ok [DS] (R : Rel lv N a σ h δ) : ∀ (tau : Tau) (st : Stab), stabE lv δ tau = some st → ∀ h', stabP st σ h h' → ∀ p ∈ tau, gh a p.2.1 = true → sameC (a.eval p.1) p.2.2 h h'
  | [], st, _, h', _, p, hp => by cases hp
  | (x, g, n) :: r, st, hs, h', hst, p, hp => by
    simp only [stabE] at hs
    split at hs <;> try (cases hs; done)
    rename_i gs e l h1 h2 h3
    split at hs <;> cases hs
    rename_i hch
    rcases List.mem_cons.1 hp with rfl | hp
    · intro hgh
      have := hst (gs, e, n) (by simp) (by rw [gTrees_ok R g gs hch h1]; exact hgh)
      rw [opE_ok R hgh h2]; exact this
    · exact stabE_ok R r l h3 h' (fun q hq => hst q (by simp [hq])) p hp
end
end Go.Ev

namespace Go.Ev
section
variable {P : Program} {G : Ctr} {lv : Nat → Bool} {N : Nat} {ops : Array Oper} {δ δ1 δ2 : List Pend} {a : Act} {σ : Env} {h : H} {o : Oper} {g : List (Nat × Bool)} {gs : Gs} {e : E} {x : Operand} {later : Nat → Bool}
  {K : Env → H → Prop} {KP : List PanicEntry → H → Prop} {l : List St}

theorem find_mem {t : Nat} {p : Pend} (hf : find δ t = some p) : p ∈ δ ∧ p.t = t := by
  unfold find at hf
  exact ⟨List.mem_of_find?_eq_some hf, by simpa using List.find?_some hf⟩
theorem find_filter (t : Nat) : find (δ.filter fun p => later p.t) t = if later t then find δ t else none := by
  unfold find
  induction δ with
  | nil => simp
  | cons p r ih =>
    simp only [List.filter_cons]
    by_cases hp : p.t = t
    · subst hp
      cases hl : later p.t with
      | true => simp
      | false => simp only [Bool.false_eq_true, if_false]; rw [ih]; simp [hl]
    · have hb : (p.t == t) = false := by simpa using hp
      cases hl : later p.t with
      | true => simp only [if_true, List.find?_cons, hb]; exact ih
      | false => simp only [Bool.false_eq_true, if_false, List.find?_cons, hb]; exact ih
theorem find_some_of_mem {p : Pend} (hp : p ∈ δ) : ∃ q, find δ p.t = some q := by
  unfold find
  cases hf : δ.find? (fun q => q.t == p.t) with
  | some q => exact ⟨q, rfl⟩
  | none => exact absurd (List.find?_eq_none.1 hf p hp) (by simp)

theorem trim_rel [DS] (ht : trim later δ = some δ2) (R : Rel lv N a σ h δ) : Rel lv N a σ h δ2 := by
  unfold trim at ht
  split at ht <;> cases ht
  rename_i hall
  have key : ∀ t p, find (δ.filter fun p => later p.t) t = some p → find δ t = some p := by
    intro t p hf; rw [find_filter] at hf; split at hf
    · exact hf
    · cases hf
  exact ⟨R.lvs, R.sz, R.df, fun t p hf => R.pend t p (key t p hf), fun t p hf => R.skip t p (key t p hf),
    fun t p hf => (List.all_eq_true.1 hall) p (find_mem hf).1, fun t p hf => R.nlv t p (key t p hf), (List.filter_sublist.map _).nodup R.nd⟩

theorem getD_put_ne {d i : Nat} {v : Value} (hne : i ≠ d) : (a.put (some d) v).tmps.getD i undef = a.tmps.getD i undef := by
  simp [Act.put, Array.getD_eq_getD_getElem?, Array.getElem?_setIfInBounds_ne (Ne.symm hne)]
theorem getD_put_eq {d : Nat} {v : Value} (hd : d < a.tmps.size) : (a.put (some d) v).tmps.getD d undef = v := by
  simp [Act.put, Array.getD_eq_getD_getElem?, hd]
theorem chain_find : ∀ (g : List (Nat × Bool)), chainB δ g = true → ∀ q ∈ g, (find δ q.1).isSome = true
  | [], _, q, hq => by cases hq
  | (s, b) :: r, hc, q, hq => by
    simp only [chainB, Bool.and_eq_true] at hc
    rcases List.mem_cons.1 hq with rfl | hq
    · cases hf : find δ s with
      | none => simp [hf] at hc
      | some p => simp
    · exact chain_find r hc.2 q hq
theorem gh_put {d : Nat} {v : Value} (hd : ∀ q ∈ g, q.1 ≠ d) : gh (a.put (some d) v) g = gh a g := by
  unfold gh
  apply Bool.eq_iff_iff.2
  simp only [List.all_eq_true]
  exact ⟨fun H q hq => by have := H q hq; rwa [getD_put_ne (hd q hq)] at this, fun H q hq => by rw [getD_put_ne (hd q hq)]; exact H q hq⟩

/-- A slot that nobody waits for is written. -/
theorem put_lv [DS] {d : Nat} {v : Value} (hl : lv d = true) (hd : d < N) (hm : δ.all (fun p => !ment d p.e) = true) (R : Rel lv N a σ h δ) : Rel lv N (a.put (some d) v) (upd σ d v) h δ := by
  have hnd : ∀ t p, find δ t = some p → t ≠ d := fun t p hf he => by have := R.nlv t p hf; rw [he, hl] at this; cases this
  have hg : ∀ t p, find δ t = some p → gh (a.put (some d) v) p.g = gh a p.g := fun t p hf => gh_put fun q hq he => by
    obtain ⟨p', hp'⟩ := Option.isSome_iff_exists.1 (chain_find p.g (R.chain t p hf) q hq)
    exact hnd _ _ hp' he
  refine ⟨fun i hi => ?_, by simp [Act.put, R.sz], by simp [Act.put, R.df], fun t p hf hgh => ?_, fun t p hf hgh => ?_, R.chain, R.nlv, R.nd⟩
  · by_cases he : i = d
    · subst he; rw [getD_put_eq (by rw [R.sz]; exact hd)]; simp [upd]
    · rw [getD_put_ne he, R.lvs i hi]; simp [upd, he]
  · rw [getD_put_ne (hnd t p hf), R.pend t p hf (by rw [← hg t p hf]; exact hgh)]
    exact (ment_ok (by have := (List.all_eq_true.1 hm) p (find_mem hf).1; simpa using this) σ v h).symm
  · rw [getD_put_ne (hnd t p hf)]; exact R.skip t p hf (by rw [← hg t p hf]; exact hgh)

theorem find_cons_ne {p : Pend} {t : Nat} (hne : p.t ≠ t) : find (p :: δ) t = find δ t := by
  unfold find; exact List.find?_cons_of_neg (by simpa using hne)
theorem find_cons_eq {p : Pend} : find (p :: δ) p.t = some p := by
  unfold find; exact List.find?_cons_of_pos (by simp)
theorem chain_cons {p : Pend} (hf : find δ p.t = none) : ∀ (g : List (Nat × Bool)), chainB δ g = true → chainB (p :: δ) g = true
  | [], _ => rfl
  | (s, b) :: r, hc => by
    have hs : (find δ s).isSome = true := chain_find _ hc (s, b) (by simp)
    have hne : p.t ≠ s := fun he => by rw [← he, hf] at hs; cases hs
    simp only [chainB, Bool.and_eq_true] at hc ⊢
    rw [find_cons_ne hne]
    exact ⟨hc.1, chain_cons hf r hc.2⟩
/-- A new temporary. -/
theorem put_new [DS] {d : Nat} {v : Value} (hl : lv d = false) (hd : d < N) (hn : find δ d = none) (hc : chainB δ g = true) (R : Rel lv N a σ h δ)
    (hv : gh a g = true → v = val e σ h) (hu : gh a g = false → v = undef) : Rel lv N (a.put (some d) v) σ h (⟨d, e, g⟩ :: δ) := by
  have hnd : ∀ t p, find δ t = some p → t ≠ d := fun t p hf he => by rw [he, hn] at hf; cases hf
  have hch : ∀ (g : List (Nat × Bool)), chainB δ g = true → gh (a.put (some d) v) g = gh a g := fun g hc => gh_put fun q hq he => by
    obtain ⟨p', hp'⟩ := Option.isSome_iff_exists.1 (chain_find g hc q hq)
    exact hnd _ _ hp' he
  refine ⟨fun i hi => ?_, by simp [Act.put, R.sz], by simp [Act.put, R.df], fun t p hf hgh => ?_, fun t p hf hgh => ?_, fun t p hf => ?_, fun t p hf => ?_, ?_⟩
  · rw [getD_put_ne (fun he => by rw [he, hl] at hi; cases hi), R.lvs i hi]
  · by_cases ht : d = t
    · subst ht
      have := hf.symm.trans (find_cons_eq (p := ⟨d, e, g⟩) (δ := δ)); cases this
      rw [getD_put_eq (by rw [R.sz]; exact hd)]; exact hv (by rw [← hch g hc]; exact hgh)
    · rw [find_cons_ne (p := ⟨d, e, g⟩) ht] at hf
      rw [getD_put_ne (Ne.symm ht)]; exact R.pend t p hf (by rw [← hch _ (R.chain t p hf)]; exact hgh)
  · by_cases ht : d = t
    · subst ht
      have := hf.symm.trans (find_cons_eq (p := ⟨d, e, g⟩) (δ := δ)); cases this
      rw [getD_put_eq (by rw [R.sz]; exact hd)]; exact hu (by rw [← hch g hc]; exact hgh)
    · rw [find_cons_ne (p := ⟨d, e, g⟩) ht] at hf
      rw [getD_put_ne (Ne.symm ht)]; exact R.skip t p hf (by rw [← hch _ (R.chain t p hf)]; exact hgh)
  · by_cases ht : d = t
    · subst ht
      have := hf.symm.trans (find_cons_eq (p := ⟨d, e, g⟩) (δ := δ)); cases this
      exact chain_cons hn _ hc
    · rw [find_cons_ne (p := ⟨d, e, g⟩) ht] at hf
      exact chain_cons hn _ (R.chain t p hf)
  · by_cases ht : d = t
    · subst ht; exact hl
    · rw [find_cons_ne (p := ⟨d, e, g⟩) ht] at hf; exact R.nlv t p hf
  · simp only [List.map_cons, List.nodup_cons]
    refine ⟨fun hm => ?_, R.nd⟩
    obtain ⟨p, hp, he⟩ := List.mem_map.1 hm
    obtain ⟨q, hq⟩ := find_some_of_mem hp
    rw [he, hn] at hq; cases hq

theorem find_lay1 (turns : E → Bool) (t : Nat) : find (lay1 turns δ).2 t = (find δ t).map fun p => if turns p.e then ⟨p.t, .t p.t, p.g⟩ else p := by
  unfold find
  induction δ with
  | nil => rfl
  | cons p r ih =>
    simp only [lay1]
    by_cases hp : p.t = t
    · subst hp
      cases ht : turns p.e <;> simp [ht]
    · have hb : (p.t == t) = false := by simpa using hp
      cases ht : turns p.e <;> simp only [Bool.false_eq_true, if_true, if_false, List.find?_cons, hb, ih]
theorem chain_lay1 (turns : E → Bool) : ∀ (g : List (Nat × Bool)), chainB δ g = true → chainB (lay1 turns δ).2 g = true
  | [], _ => rfl
  | (s, b) :: r, hc => by
    simp only [chainB, Bool.and_eq_true] at hc ⊢
    refine ⟨?_, chain_lay1 turns r hc.2⟩
    rw [find_lay1]
    cases hf : find δ s with
    | none => simp [hf] at hc
    | some p =>
      have := hc.1
      simp only [hf] at this
      simp only [Option.map_some]
      split <;> exact this
theorem map_lay1 (turns : E → Bool) : (lay1 turns δ).2.map (·.t) = δ.map (·.t) := by
  induction δ with
  | nil => rfl
  | cons p r ih => simp only [lay1]; split <;> simp [ih]
/-- Laying trees down changes no frame. -/
theorem lay_sound [DS] (turns : E → Bool) (hlay : lay turns δ = some (l, δ1)) (R : Rel lv N a σ h δ) (Hw : wpSts G l K KP σ h) : ∃ σ', Rel lv N a σ' h δ1 ∧ K σ' h := by
  unfold lay at hlay
  split at hlay <;> try (cases hlay; done)
  rename_i hall
  have e0 := Option.some.inj hlay
  have e1 : (lay1 turns δ).1 = l := by rw [e0]
  have e2 : (lay1 turns δ).2 = δ1 := by rw [e0]
  subst e1 e2
  have hT : ∀ p ∈ δ, turns p.e = true → ∀ q ∈ δ, ment p.t q.e = false := fun p hp ht q hq => by
    have := (List.all_eq_true.1 hall) p hp
    simp only [ht, Bool.not_true, Bool.false_or, List.all_eq_true] at this
    simpa using this q hq
  have hlvδ : ∀ p ∈ δ, lv p.t = false := fun p hp => by obtain ⟨q, hq'⟩ := find_some_of_mem hp; exact R.nlv _ _ hq'
  have main : ∀ (r : List Pend), (∀ p ∈ r, p ∈ δ) → (r.map (·.t)).Nodup → ∀ (σ1 : Env) (K : Env → H → Prop), (∀ q ∈ δ, val q.e σ1 h = val q.e σ h) → (∀ i, lv i = true → σ1 i = σ i) → wpSts G (lay1 turns r).1 K KP σ1 h →
      ∃ σ', K σ' h ∧ (∀ q ∈ δ, val q.e σ' h = val q.e σ h) ∧ (∀ i, lv i = true → σ' i = σ i) ∧ (∀ i, (∀ p ∈ r, p.t ≠ i) → σ' i = σ1 i) ∧ (∀ p ∈ r, turns p.e = true → σ' p.t = val p.e σ h) := by
    intro r
    induction r with
    | nil => intro _ _ σ1 K hq hi H; exact ⟨σ1, H, hq, hi, fun _ _ => rfl, fun p hp => by cases hp⟩
    | cons p r ih =>
      intro hr hnd σ1 K hq hi H
      simp only [List.map_cons, List.nodup_cons] at hnd
      simp only [lay1] at H
      have hpδ := hr p (by simp)
      have hpr : ∀ q ∈ r, q.t ≠ p.t := fun q hq he => hnd.1 (List.mem_map.2 ⟨q, hq, he⟩)
      split at H
      · rename_i ht
        simp only [wpSts, wpSt] at H
        obtain ⟨σ', h1, h2, h3, h4, h5⟩ := ih (fun q hq => hr q (by simp [hq])) hnd.2 _ K (fun q hqδ => by rw [ment_ok (hT p hpδ ht q hqδ)]; exact hq q hqδ) (fun i hl => by
          have : i ≠ p.t := fun he => by rw [he, hlvδ p hpδ] at hl; cases hl
          simp [upd, this, hi i hl]) H
        refine ⟨σ', h1, h2, h3, fun i hn => ?_, fun q hq' ht' => ?_⟩
        · rw [h4 i (fun q hq => hn q (by simp [hq]))]
          have : i ≠ p.t := fun he => hn p (by simp) he.symm
          simp [upd, this]
        · rcases List.mem_cons.1 hq' with rfl | hq'
          · rw [h4 _ hpr]; simp [upd, hq q hpδ]
          · exact h5 q hq' ht'
      · rename_i ht
        obtain ⟨σ', h1, h2, h3, h4, h5⟩ := ih (fun q hq => hr q (by simp [hq])) hnd.2 σ1 K hq hi H
        refine ⟨σ', h1, h2, h3, fun i hn => h4 i (fun q hq => hn q (by simp [hq])), fun q hq' ht' => ?_⟩
        rcases List.mem_cons.1 hq' with rfl | hq'
        · exact absurd ht' ht
        · exact h5 q hq' ht'
  obtain ⟨σ', h1, h2, h3, _, h5⟩ := main δ (fun _ h => h) R.nd σ K (fun _ _ => rfl) (fun _ _ => rfl) Hw
  refine ⟨σ', ⟨fun i hi => by rw [R.lvs i hi, h3 i hi], R.sz, R.df, fun t p hf hgh => ?_, fun t p hf hgh => ?_, fun t p hf => ?_, fun t p hf => ?_, ?_⟩, h1⟩
  · rw [find_lay1] at hf
    obtain ⟨q, hq, hpq⟩ := Option.map_eq_some_iff.1 hf
    have hm := find_mem hq
    split at hpq
    · rename_i ht; subst hpq
      rw [R.pend t q hq hgh]; simp only [val]; rw [h5 q hm.1 ht]
    · subst hpq; rw [R.pend t q hq hgh, h2 q hm.1]
  · rw [find_lay1] at hf
    obtain ⟨q, hq, hpq⟩ := Option.map_eq_some_iff.1 hf
    split at hpq <;> subst hpq <;> exact R.skip t q hq hgh
  · rw [find_lay1] at hf
    obtain ⟨q, hq, hpq⟩ := Option.map_eq_some_iff.1 hf
    have : p.g = q.g := by split at hpq <;> subst hpq <;> rfl
    rw [this]; exact chain_lay1 turns _ (R.chain t q hq)
  · rw [find_lay1] at hf
    obtain ⟨q, hq, _⟩ := Option.map_eq_some_iff.1 hf
    exact R.nlv t q hq
  · rw [map_lay1]; exact R.nd

theorem guardOf_ok [DS] (R : Rel lv N a σ h δ) (hg : guardOf ops δ o = some g) : chainB δ g = true ∧ Region.wanted o (yielded ops a.tmps) = gh a g := by
  unfold guardOf at hg
  unfold Region.wanted
  split at hg
  · rename_i h0; cases hg; rw [h0]; exact ⟨rfl, rfl⟩
  · rename_i j want h0
    split at hg <;> try (cases hg; done)
    rename_i s hs
    split at hg <;> cases hg
    rename_i p hf
    refine ⟨?_, ?_⟩
    · simp only [chainB, hf, decide_true, Bool.true_and]; exact R.chain s p hf
    · rw [h0]
      show (yielded ops a.tmps j == some want) = (isB (a.tmps.getD s undef) want && gh a p.g)
      have hy : (yielded ops a.tmps j == some want) = isB (a.tmps.getD s undef) want := by
        unfold yielded
        rw [hs]
        simp only [Option.bind_some, Array.getD_eq_getD_getElem?]
        cases hv : a.tmps[s]? with
        | none => simp [undef, isB]
        | some v => cases v <;> simp [isB]
      rw [hy]
      cases hgh : gh a p.g with
      | true => simp
      | false => rw [R.skip s p hf hgh]; simp [undef, isB]

theorem chks_sound {c : Option Chk} (Hw : wpSts G (chks gs c) K KP σ h) : (gsOk gs σ h = true → chkO c σ h) ∧ K σ h := by
  cases c with
  | none => exact ⟨fun _ => trivial, Hw⟩
  | some c => exact Hw

/-- A quiet operation yields one value, and the tie goes on. -/
theorem compQ_sound [DS] {k : Go.Ev.K} {l : List St} (hs : Says P o k) (hc : compQ P lv N ops δ later o k = some (l, δ2)) (R : Rel lv N a σ h δ) (Hw : wpSts G l K KP σ h) :
    ∃ v σ', (Region.wanted o (yielded ops a.tmps) = true → kcond k a h h ∧ ∀ w : World, kcond k a h w.heap → (execOp a.eval o).run P w = .ok (.value v) w) ∧
      (Region.wanted o (yielded ops a.tmps) = false → v = undef) ∧ Rel lv N (a.put o.dst v) σ' h δ2 ∧ K σ' h := by
  unfold compQ at hc
  split at hc <;> try (cases hc; done)
  rename_i d hd
  split at hc
  · rename_i hl
    split at hc <;> try (cases hc; done)
    rename_i l1 δ1 hgu hlay
    split at hc <;> try (cases hc; done)
    rename_i c e hq
    split at hc <;> try (cases hc; done)
    rename_i hcond
    simp only [Bool.and_eq_true, decide_eq_true_eq] at hcond
    obtain ⟨δ3, htr, he⟩ := Option.map_eq_some_iff.1 hc
    simp only [Prod.mk.injEq] at he
    obtain ⟨rfl, rfl⟩ := he
    rw [List.append_assoc, wpSts_append] at Hw
    obtain ⟨σ1, R1, Hw⟩ := lay_sound _ hlay R Hw
    rw [wpSts_append] at Hw
    obtain ⟨h1, h2⟩ := chks_sound Hw
    have hw : Region.wanted o (yielded ops a.tmps) = true := by unfold Region.wanted; rw [hgu]
    refine ⟨val e σ1 h, upd σ1 d (val e σ1 h), fun _ => ⟨kcond_refl R1 rfl hq (h1 rfl), fun w hw' => quietE_ok R1 rfl hs hq (h1 rfl) w hw'⟩, fun hf => (by rw [hw] at hf; cases hf), ?_, h2⟩
    rw [hd]
    exact trim_rel htr (put_lv hl hcond.1 hcond.2 R1)
  · rename_i hl
    split at hc <;> try (cases hc; done)
    rename_i g hg
    split at hc <;> try (cases hc; done)
    rename_i gs c e hgt hq
    split at hc <;> try (cases hc; done)
    rename_i hcond
    simp only [Bool.and_eq_true, decide_eq_true_eq, Option.isNone_iff_eq_none] at hcond
    obtain ⟨δ3, htr, he⟩ := Option.map_eq_some_iff.1 hc
    simp only [Prod.mk.injEq] at he
    obtain ⟨rfl, rfl⟩ := he
    obtain ⟨hch, hwant⟩ := guardOf_ok R hg
    obtain ⟨h1, h2⟩ := chks_sound Hw
    have hgs := gTrees_ok R g gs hch hgt
    have hl' : lv d = false := by simpa using hl
    cases hgh : gh a g with
    | true =>
      refine ⟨val e σ h, σ, fun _ => ⟨kcond_refl R hgh hq (h1 (by rw [hgs, hgh])), fun w hw' => quietE_ok R hgh hs hq (h1 (by rw [hgs, hgh])) w hw'⟩, fun hf => (by rw [hwant, hgh] at hf; cases hf), ?_, h2⟩
      rw [hd]
      exact trim_rel htr (put_new hl' hcond.1 hcond.2 hch R (fun _ => rfl) (fun hf => by rw [hgh] at hf; cases hf))
    | false =>
      refine ⟨undef, σ, fun hf => (by rw [hwant, hgh] at hf; cases hf), fun _ => rfl, ?_, h2⟩
      rw [hd]
      exact trim_rel htr (put_new hl' hcond.1 hcond.2 hch R (fun hf => by rw [hgh] at hf; cases hf) (fun _ => rfl))

theorem lay_eq {turns : E → Bool} (hlay : lay turns δ = some (l, δ1)) : (lay1 turns δ).2 = δ1 := by
  unfold lay at hlay
  split at hlay <;> try (cases hlay; done)
  have e0 := Option.some.inj hlay
  rw [e0]
theorem lay_dep (hlay : lay dep δ = some (l, δ1)) : ∀ p ∈ δ1, dep p.e = false := by
  rw [← lay_eq hlay]
  clear hlay
  induction δ with
  | nil => intro p hp; cases hp
  | cons q r ih =>
    intro p hp
    simp only [lay1] at hp
    split at hp
    · rcases List.mem_cons.1 hp with rfl | hp
      · rfl
      · exact ih p hp
    · rename_i hq
      rcases List.mem_cons.1 hp with rfl | hp
      · simpa using hq
      · exact ih p hp
theorem lay_chain [DS] {turns : E → Bool} (hlay : lay turns δ = some (l, δ1)) (R : Rel lv N a σ h δ) : ∀ t p, find δ1 t = some p → chainB δ1 p.g = true := by
  rw [← lay_eq hlay]
  intro t p hf
  rw [find_lay1] at hf
  obtain ⟨q, hq, hpq⟩ := Option.map_eq_some_iff.1 hf
  have : p.g = q.g := by split at hpq <;> subst hpq <;> rfl
  rw [this]; exact chain_lay1 turns _ (R.chain t q hq)
theorem guard_chain (hc : ∀ t p, find δ t = some p → chainB δ p.g = true) (hg : guardOf ops δ o = some g) : chainB δ g = true := by
  unfold guardOf at hg
  split at hg
  · cases hg; rfl
  · split at hg <;> try (cases hg; done)
    split at hg <;> cases hg
    rename_i p hf
    simp only [chainB, hf, decide_true, Bool.true_and]; exact hc _ p hf
theorem heap_rel [DS] {h' : Go.Ev.H} (hd : ∀ p ∈ δ, dep p.e = false) (R : Rel lv N a σ h δ) : Rel lv N a σ h' δ :=
  ⟨R.lvs, R.sz, R.df, fun t p hf hgh => by rw [R.pend t p hf hgh]; exact dep_ok (hd p (find_mem hf).1) σ h h', R.skip, R.chain, R.nlv, R.nd⟩
theorem env_rel [DS] {d : Nat} {v : Value} (hl : lv d = false) (hm : δ.all (fun p => !ment d p.e) = true) (R : Rel lv N a σ h δ) : Rel lv N a (upd σ d v) h δ :=
  ⟨fun i hi => by
    have : i ≠ d := fun he => by rw [he, hl] at hi; cases hi
    simp [upd, this, R.lvs i hi], R.sz, R.df, fun t p hf hgh => by
    rw [R.pend t p hf hgh]
    exact (ment_ok (by have := (List.all_eq_true.1 hm) p (find_mem hf).1; simpa using this) σ v h).symm, R.skip, R.chain, R.nlv, R.nd⟩
/-- An operation that acts. -/
theorem compF_sound [DS] {f : F} {xs : List Operand} {l : List St} {tau : Tau} {w : World} {next : Act → World → Prop} {Q : Exit → Act → World → Prop}
    (hG : GOk P G) (hs : Says P o (.ef f xs)) (hc : compF P lv N ops δ later tau o f xs = some (l, δ2)) (R : Rel lv N a σ h δ) (Hw : wpSts G l K KP σ h) (hh : w.heap = h)
    (hn : ∀ v w' σ', Keep w w' → Rel lv N (a.put o.dst v) σ' w'.heap δ2 → (∀ p ∈ tau, gh a p.2.1 = true → w' = w ∨ sameC (a.eval p.1) p.2.2 h w'.heap) → K σ' w'.heap → next (a.put o.dst v) w')
    (hp : ∀ c w', Keep w w' → KP c w'.heap → Q (.panic c) a w') :
    if Region.wanted o (yielded ops a.tmps) then o.wp P a w next Q else next (a.put o.dst undef) w := by
  unfold compF at hc
  split at hc <;> try (cases hc; done)
  rename_i l0 δ1 hlay
  split at hc <;> try (cases hc; done)
  rename_i g hg
  split at hc <;> try (cases hc; done)
  rename_i gs es st hgt hes hst
  have hch : chainB δ1 g = true := by
    exact guard_chain (lay_chain hlay R) hg
  -- all three arms: l = l0 ++ [.eff gs o.dst f es st], and the tie behind it
  have fin : l = l0 ++ [.eff gs o.dst f es st] ∧ ∀ (σ1 : Env) (h' : Go.Ev.H) (v : Value), Rel lv N a σ1 h' δ1 → (gh a g = false → v = undef) → Rel lv N (a.put o.dst v) (updo σ1 o.dst v) h' δ2 := by
    split at hc
    · rename_i hd
      obtain ⟨δ3, htr, he⟩ := Option.map_eq_some_iff.1 hc
      simp only [Prod.mk.injEq] at he
      obtain ⟨rfl, rfl⟩ := he
      rw [hd]
      exact ⟨rfl, fun σ1 h' v R1 _ => trim_rel htr R1⟩
    · rename_i d hd
      split at hc
      · rename_i hl
        split at hc <;> try (cases hc; done)
        rename_i hcond
        simp only [Bool.and_eq_true, decide_eq_true_eq] at hcond
        obtain ⟨δ3, htr, he⟩ := Option.map_eq_some_iff.1 hc
        simp only [Prod.mk.injEq] at he
        obtain ⟨rfl, rfl⟩ := he
        rw [hd]
        exact ⟨rfl, fun σ1 h' v R1 _ => trim_rel htr (put_lv hl hcond.1.2 hcond.2 R1)⟩
      · rename_i hl
        split at hc <;> try (cases hc; done)
        rename_i hcond
        simp only [Bool.and_eq_true, decide_eq_true_eq, Option.isNone_iff_eq_none] at hcond
        obtain ⟨δ3, htr, he⟩ := Option.map_eq_some_iff.1 hc
        simp only [Prod.mk.injEq] at he
        obtain ⟨rfl, rfl⟩ := he
        rw [hd]
        refine ⟨rfl, fun σ1 h' v R1 hu => trim_rel htr ?_⟩
        exact put_new (by simpa using hl) hcond.1.1 hcond.1.2 hch (env_rel (by simpa using hl) hcond.2 R1) (fun _ => by simp [val, updo, upd]) hu
  obtain ⟨rfl, fin⟩ := fin
  rw [wpSts_append] at Hw
  obtain ⟨σ1, R1, Hw⟩ := lay_sound _ hlay R Hw
  obtain ⟨hch', hwant⟩ := guardOf_ok (ops := ops) (o := o) R1 hg
  have hgs := gTrees_ok R1 g gs hch' hgt
  simp only [wpSts, wpSt] at Hw
  subst hh
  split
  · rename_i hwd
    have hgh : gh a g = true := by rw [← hwant]; exact hwd
    refine hs G hG a w next Q (fun v h' => stabP st σ1 w.heap h' ∧ K (updo σ1 o.dst v) h') KP ?_ (fun v w' hk hK => ?_) hp
    · rw [opEs_ok R1 hgh xs es hes]; exact Hw.1 (by rw [hgs, hgh])
    · exact hn v w' _ hk (fin σ1 w'.heap v (heap_rel (lay_dep hlay) R1) (fun hf => by rw [hgh] at hf; cases hf)) (fun p hp hgp => .inr (stabE_ok R1 tau st hst _ hK.1 p hp hgp)) hK.2
  · rename_i hwd
    have hgh : gh a g = false := by rw [← hwant]; simpa using hwd
    exact hn undef w _ (Keep.refl w) (fin σ1 w.heap undef R1 (fun _ => rfl)) (fun _ _ _ => .inl rfl) (Hw.2 (by rw [hgs, hgh]))
end
end Go.Ev

namespace Go.Ev
section
set_option linter.unusedVariables false
variable {P : Program} {G : Ctr} {lv : Nat → Bool} {N : Nat} {ops : Array Oper} {δ : List Pend} {a : Act} {σ : Env} {h : H} {w : World} {Q : Exit → Act → World → Prop}

def laterOf (ops : Array Oper) (rest : List Oper) (t : Nat) : Bool := rest.any fun o => (o.looksAt ops).contains t
/-- A region in the order of the text. -/
def compL (P : Program) (lv : Nat → Bool) (N : Nat) (ops : Array Oper) : List Oper → List Pend → Option (List St)
  | [], _ => some []
  | o :: rest, δ => match tr P o with
    | none => none
    | some (.ef f xs) => match compF P lv N ops δ (laterOf ops rest) [] o f xs with
      | some (l, δ') => (compL P lv N ops rest δ').map (l ++ ·)
      | none => none
    | some k => match compQ P lv N ops δ (laterOf ops rest) o k with
      | some (l, δ') => (compL P lv N ops rest δ').map (l ++ ·)
      | none => none
theorem Rel.bare [DS] {δ : List Pend} (R : Rel lv N a σ h δ) : Rel lv N a σ h [] :=
  ⟨R.lvs, R.sz, R.df, fun _ _ hf => (by cases hf), fun _ _ hf => (by cases hf), fun _ _ hf => (by cases hf), fun _ _ hf => (by cases hf), by simp⟩
/-- What a post over small frames says of frames. -/
def CQ [DS] (lv : Nat → Bool) (N : Nat) (w0 : World) (Q : Exit → Env → H → Prop) : Exit → Act → World → Prop
  | .panic c, a, w => Keep w0 w ∧ a.defers = DS.d ∧ Q (.panic c) (fun _ => undef) w.heap
  | .outgrown, _, _ => False
  | x, a, w => Keep w0 w ∧ ∃ σ, Rel lv N a σ w.heap [] ∧ Q x σ w.heap
def pQ (Q : Exit → Env → H → Prop) (c : List PanicEntry) (h : H) : Prop := Q (.panic c) (fun _ => undef) h

theorem compL_sound [DS] (hG : GOk P G) {w0 : World} {Q : Exit → Env → H → Prop} : ∀ (rest : List Oper) (δ : List Pend) (l : List St) (a : Act) (σ : Env) (w : World), compL P lv N ops rest δ = some l → Rel lv N a σ w.heap δ → Keep w0 w →
    wpSts G l (Q .normal) (pQ Q) σ w.heap → wpList P ops (CQ lv N w0 Q) rest a w
  | [], δ, l, a, σ, w, hc, R, hk, Hw => by
    cases hc
    exact ⟨hk, σ, R.bare, Hw⟩
  | o :: rest, δ, l, a, σ, w, hc, R, hk, Hw => by
    simp only [compL] at hc
    have go : (if Region.wanted o (yielded ops a.tmps) then o.wp P a w (wpList P ops (CQ lv N w0 Q) rest) (CQ lv N w0 Q) else wpList P ops (CQ lv N w0 Q) rest (a.put o.dst undef) w) := by
      split at hc <;> try (cases hc; done)
      · rename_i f xs ht
        split at hc <;> try (cases hc; done)
        rename_i l1 δ1 h1
        obtain ⟨l2, h2, rfl⟩ := Option.map_eq_some_iff.1 hc
        rw [wpSts_append] at Hw
        exact compF_sound hG (tr_says ht) h1 R Hw rfl (fun v w' σ' hk' R' _ K' => compL_sound hG rest δ1 l2 _ σ' w' h2 R' (hk.trans hk') K')
          (fun c w' hk' hp => ⟨hk.trans hk', R.df, hp⟩)
      · rename_i k hne ht
        split at hc <;> try (cases hc; done)
        rename_i l1 δ1 h1
        obtain ⟨l2, h2, rfl⟩ := Option.map_eq_some_iff.1 hc
        rw [wpSts_append] at Hw
        obtain ⟨v, σ', hv, hu, R', K'⟩ := compQ_sound (tr_says ht) h1 R Hw
        split
        · rename_i hw
          exact upon_value ((hv hw).2 w (hv hw).1) (compL_sound hG rest δ1 l2 _ σ' w h2 R' hk K')
        · rename_i hw
          rw [← hu (by simpa using hw)]
          exact compL_sound hG rest δ1 l2 _ σ' w h2 R' hk K'
    unfold wpList
    split
    · rename_i hw; rw [if_pos hw] at go; exact .inl go
    · rename_i hw; rw [if_neg hw] at go; exact go

/-! ### A region that draws its order -/
/-- 'i' waits for 'k', through whatever is between. -/
def waits (M : Array Nat) (k i : Nat) : Bool := (M.getD i 0).testBit k
def row (acc : Array Nat) (o : Oper) : Nat := o.after.foldl (fun s e => if Region.binds .any e then s ||| 2 ^ e.on ||| acc.getD e.on 0 else s) 0
theorem row_bit (acc : Array Nat) (k : Nat) : ∀ (es : List Edge) (s : Nat), (es.foldl (fun s e => if Region.binds .any e then s ||| 2 ^ e.on ||| acc.getD e.on 0 else s) s).testBit k = true →
    s.testBit k = true ∨ ∃ e ∈ es, Region.binds .any e = true ∧ (e.on = k ∨ (acc.getD e.on 0).testBit k = true)
  | [], s, h => .inl h
  | e :: r, s, h => by
    rcases row_bit acc k r _ h with h1 | ⟨e', he, hb, hk⟩
    · simp only [] at h1
      split at h1
      · rename_i hb
        simp only [Nat.testBit_or, Nat.testBit_two_pow, Bool.or_eq_true, decide_eq_true_eq] at h1
        rcases h1 with (h1 | h1) | h1
        · exact .inl h1
        · exact .inr ⟨e, by simp, hb, .inl h1⟩
        · exact .inr ⟨e, by simp, hb, .inr h1⟩
      · exact .inl h1
    · exact .inr ⟨e', by simp [he], hb, hk⟩
theorem before_fold : ∀ (l : List Oper) (acc : Array Nat), ∃ r : List Nat, (l.foldl (fun acc o => acc.push (row acc o)) acc).toList = acc.toList ++ r ∧ r.length = l.length ∧
    ∀ j o, l[j]? = some o → ∀ k, (r.getD j 0).testBit k = true → ∃ e ∈ o.after, Region.binds .any e = true ∧ (e.on = k ∨ (e.on < acc.size + j ∧ ((acc.toList ++ r).getD e.on 0).testBit k = true))
  | [], acc => ⟨[], by simp, rfl, fun j o h => by simp at h⟩
  | o :: l, acc => by
    obtain ⟨r, h1, h2, h3⟩ := before_fold l (acc.push (row acc o))
    refine ⟨row acc o :: r, by simp [h1], by simp [h2], fun j o' hj k hk => ?_⟩
    cases j with
    | zero =>
      simp only [List.getElem?_cons_zero, Option.some.injEq] at hj
      subst hj
      simp only [List.getD_cons_zero] at hk
      unfold row at hk
      rw [← Array.foldl_toList] at hk
      rcases row_bit acc k _ 0 hk with h0 | ⟨e, he, hb, hk'⟩
      · simp at h0
      · refine ⟨e, by simpa using he, hb, hk'.imp id fun h => ?_⟩
        rcases Nat.lt_or_ge e.on acc.size with hlt | hge
        · refine ⟨by omega, ?_⟩
          simp only [Array.getD_eq_getD_getElem?, Array.getElem?_eq_getElem hlt, Option.getD_some] at h
          rw [List.getD_eq_getElem?_getD, List.getElem?_append_left (by simpa using hlt)]
          simpa [hlt] using h
        · simp [Array.getD_eq_getD_getElem?, hge] at h
    | succ j =>
      simp only [List.getElem?_cons_succ] at hj
      simp only [List.getD_cons_succ] at hk
      obtain ⟨e, he, hb, hk'⟩ := h3 j o' hj k hk
      refine ⟨e, he, hb, hk'.imp id fun ⟨a1, a2⟩ => ⟨by simp at a1; omega, by simpa using a2⟩⟩
theorem before_spec {j : Nat} {o : Oper} (hj : ops[j]? = some o) {k : Nat} (hw : waits (Region.before ops) k j = true) :
    ∃ e ∈ o.after, Region.binds .any e = true ∧ (e.on = k ∨ (e.on < j ∧ waits (Region.before ops) k e.on = true)) := by
  have hb : Region.before ops = ops.toList.foldl (fun acc o => acc.push (row acc o)) #[] := by
    unfold Region.before; rw [← Array.foldl_toList]; rfl
  obtain ⟨r, h1, _, h3⟩ := before_fold ops.toList #[]
  rw [← hb] at h1
  have hget : ∀ i, (Region.before ops).getD i 0 = r.getD i 0 := fun i => by
    rw [Array.getD_eq_getD_getElem?, List.getD_eq_getElem?_getD, ← Array.getElem?_toList, h1]; rfl
  unfold waits at hw ⊢
  rw [hget] at hw
  obtain ⟨e, he, hbd, hk⟩ := h3 j o (by simpa using hj) k hw
  exact ⟨e, he, hbd, hk.imp id fun ⟨a1, a2⟩ => ⟨by simpa using a1, by rw [hget]; simpa using a2⟩⟩
/-- What is listed has what it waits for listed. -/
def DC (ops : Array Oper) (listed : Array Bool) : Prop := listed.size = ops.size ∧ ∀ j o, ops[j]? = some o → listed.getD j false = true → ∀ e ∈ o.after, Region.binds .any e = true → listed.getD e.on false = true
theorem listed_anc {listed : Array Bool} (hd : DC ops listed) {k : Nat} : ∀ (j : Nat) (o : Oper), ops[j]? = some o → (∀ e ∈ o.after, Region.binds .any e = true → listed.getD e.on false = true) → waits (Region.before ops) k j = true → listed.getD k false = true := by
  intro j
  induction j using Nat.strongRecOn with
  | _ j ih =>
    intro o ho hall hw
    obtain ⟨e, he, hb, hk⟩ := before_spec ho hw
    rcases hk with rfl | ⟨hlt, hk⟩
    · exact hall e he hb
    · have hj : e.on < ops.size := by have := (Array.getElem?_eq_some_iff.1 ho).1; omega
      exact ih e.on hlt ops[e.on] (by simp [hj]) (hd.2 e.on _ (by simp [hj]) (hall e he hb)) hk
theorem DC.set {listed : Array Bool} (hd : DC ops listed) {i : Nat} (hi : i ∈ Region.ready .any ops listed) : DC ops (listed.setIfInBounds i true) := by
  refine ⟨by simp [hd.1], fun j o ho hl e he hb => getD_set_true ?_⟩
  obtain ⟨_, oi, hoi, hall⟩ := mem_ready.1 hi
  by_cases hij : j = i
  · subst hij
    rw [hoi] at ho; cases ho
    exact hall e he hb
  · rw [getD_set_ne false (Ne.symm hij)] at hl
    exact hd.2 j o ho hl e he hb
theorem no_wait {listed : Array Bool} (hd : DC ops listed) {i j : Nat} (hi : i ∈ Region.ready .any ops listed) (hj : j ∈ Region.ready .any ops listed) : waits (Region.before ops) i j = false := by
  obtain ⟨_, oj, hoj, hall⟩ := mem_ready.1 hj
  cases hw : waits (Region.before ops) i j with
  | false => rfl
  | true =>
    have h1 := listed_anc hd j oj hoj hall hw
    obtain ⟨h0, oi, hoi, _⟩ := mem_ready.1 hi
    have hlt := (Array.getElem?_eq_some_iff.1 hoi).1
    rw [← hd.1] at hlt
    simp only [Array.getD_eq_getD_getElem?, Array.getElem?_eq_getElem hlt, Option.getD_some] at h0 h1
    rw [h0] at h1; cases h1

abbrev Conds := List (Nat × (World → Prop))
def keepC (ops : Array Oper) (i : Nat) (Cs : Conds) : Conds := Cs.filter fun c => !waits (Region.before ops) c.1 i
def after (act : Nat → Bool) (ops : Array Oper) (Cs : Conds) (i : Nat) (w w' : World) : Prop :=
  if act i then ∀ c ∈ keepC ops i Cs, c.2 w' else w' = w
def wpAnyX (P : Program) (ops : Array Oper) (Q : Exit → Act → World → Prop) (act : Nat → Bool) : Nat → Array Bool → Conds → Act → World → Prop
  | 0, listed, _, a, w => Region.ready .any ops listed = [] ∧ Q .normal a w
  | fuel + 1, listed, Cs, a, w =>
    (Region.ready .any ops listed = [] → Q .normal a w) ∧
    ∀ i ∈ Region.ready .any ops listed, wpOp P ops Q i (fun a' w' => after act ops Cs i w w' ∧ wpAnyX P ops Q act fuel (listed.setIfInBounds i true) (keepC ops i Cs) a' w') a w
theorem wpAny_of_X {act : Nat → Bool} : ∀ (fuel : Nat) (listed : Array Bool) (Cs : Conds) (a : Act) (w : World), wpAnyX P ops Q act fuel listed Cs a w → wpAny P .any ops Q fuel listed a w
  | 0, _, _, _, _, h => h
  | fuel + 1, _, _, _, _, h => ⟨h.1, fun i hi => wpOp_mono (fun a' w' h' => wpAny_of_X fuel _ _ a' w' h'.2) (h.2 i hi)⟩
theorem after_less {act : Nat → Bool} {Cs Cs' : Conds} {i : Nat} {w w' : World} (hs : Cs'.Sublist Cs) (h : after act ops Cs i w w') : after act ops Cs' i w w' := by
  unfold after at *
  split
  · rename_i ha; rw [if_pos ha] at h; exact fun c' hc => h c' ((hs.filter _).subset hc)
  · rename_i ha; rw [if_neg ha] at h; exact h
theorem wpAnyX_less {act : Nat → Bool} : ∀ (fuel : Nat) (listed : Array Bool) (Cs Cs' : Conds) (a : Act) (w : World), Cs'.Sublist Cs → wpAnyX P ops Q act fuel listed Cs a w → wpAnyX P ops Q act fuel listed Cs' a w
  | 0, _, _, _, _, _, _, h => h
  | fuel + 1, _, _, _, _, _, hs, h => ⟨h.1, fun i hi => wpOp_mono (fun a' w' h' => ⟨after_less hs h'.1, wpAnyX_less fuel _ _ _ a' w' (hs.filter _) h'.2⟩) (h.2 i hi)⟩

theorem wpAnyX_first {act : Nat → Bool} {i : Nat} {oi : Oper} {v : Value} {C : World → Prop} (hi : ops[i]? = some oi) (hact : act i = false)
    (hsel : ∀ (j : Nat) (o : Oper) cs b, ops[j]? = some o → o.op ≠ .select cs b) (hQ : ∀ c a w, Q (.panic c) (a.put oi.dst v) w → Q (.panic c) a w) :
    ∀ (fuel : Nat) (listed : Array Bool) (Cs : Conds) (a : Act) (w : World), DC ops listed →
      (∀ j oj, ops[j]? = some oj → j ≠ i → listed.getD j true = false → (∀ e ∈ oj.after, Region.binds .any e = true → e.on ≠ i) → oi.apart ops oj = true) →
      i ∈ Region.ready .any ops listed → YieldsIf P ops C oi v a → C w →
      wpAnyX P ops Q act fuel (listed.setIfInBounds i true) ((i, C) :: Cs) (a.put oi.dst v) w → wpAnyX P ops Q act (fuel + 1) listed Cs a w := by
  intro fuel
  have aft : ∀ (Cs : Conds) (w : World), after act ops Cs i w w := fun Cs w => by unfold after; rw [hact]; rfl
  have sub : ∀ Cs : Conds, (keepC ops i Cs).Sublist ((i, C) :: Cs) := fun Cs => List.Sublist.trans List.filter_sublist (List.sublist_cons_self _ _)
  induction fuel with
  | zero =>
    intro listed Cs a w _ _ hr hy hS Hx
    refine ⟨fun h => (by rw [h] at hr; cases hr), fun j hj => ?_⟩
    by_cases hji : j = i
    · subst hji; exact hy.wpOp hi hS ⟨aft Cs w, Hx⟩
    · have := ready_mono hj hji
      rw [Hx.1] at this
      cases this
  | succ fuel ih =>
    intro listed Cs a w hdc hfree hr hy hS Hx
    refine ⟨fun h => (by rw [h] at hr; cases hr), fun j hj => ?_⟩
    by_cases hji : j = i
    · subst hji; exact hy.wpOp hi hS ⟨aft Cs w, wpAnyX_less _ _ _ _ _ _ (sub Cs) Hx⟩
    · have h1 := Hx.2 j (ready_mono hj hji)
      obtain ⟨hjun, oj, hoj, hall⟩ := mem_ready.1 hj
      have hnot : ∀ e ∈ oj.after, Region.binds .any e = true → e.on ≠ i := fun e he hb heq => by
        have h1 := hall e he hb
        have h0 := (mem_ready.1 hr).1
        rw [heq] at h1
        rcases Nat.lt_or_ge i listed.size with h' | h'
        · simp [h'] at h0 h1; rw [h0] at h1; cases h1
        · simp [Array.getElem?_eq_none h'] at h1
      have hwait := no_wait hdc hr hj
      have hkeep : ∀ Cs : Conds, keepC ops j ((i, C) :: Cs) = (i, C) :: keepC ops j Cs := fun Cs => by
        unfold keepC; rw [List.filter_cons]; simp [hwait]
      have h2 := wpOp_putIf hoj (hfree j oj hoj hji hjun hnot) (fun cs b => hsel i oi cs b hi) (fun cs b => hsel j oj cs b hoj) hQ hy h1
      have hfree' : ∀ k ok, ops[k]? = some ok → k ≠ i → (listed.setIfInBounds j true).getD k true = false →
          (∀ e ∈ ok.after, Region.binds .any e = true → e.on ≠ i) → oi.apart ops ok = true := fun k ok hk hki hun hno => by
        refine hfree k ok hk hki ?_ hno
        by_cases hjk : j = k
        · subst hjk; exact hjun
        · rw [getD_set_ne true hjk] at hun; exact hun
      refine wpOp_mono (fun a' w' h3 => ⟨after_less (List.sublist_cons_self _ _) h3.2.1, ih (listed.setIfInBounds j true) _ a' w' (hdc.set hj) hfree' (ready_mono hr (Ne.symm hji)) h3.1 ?_ ?_⟩) h2
      · have ha := h3.2.1
        unfold after at ha
        rw [hkeep] at ha
        split at ha
        · exact ha (i, C) (by simp)
        · rw [ha]; exact hS
      · rw [Array.setIfInBounds_comm _ _ hji]
        have := h3.2.2
        rw [hkeep] at this
        exact this
end
end Go.Ev

namespace Go.Ev
section
set_option linter.unusedVariables false
variable {P : Program} {G : Ctr} {lv : Nat → Bool} {N : Nat} {ops : Array Oper} {δ : List Pend} {a : Act} {σ : Env} {h : H} {w : World}

/-! ### Code -/
inductive S where
  | sts (l : List St) | skip | seq (a b : S) | cond (t : Nat) (a b : S) | block (id : Nat) (s : S) | loop (s : S) | exit (id : Nat) | ret | scope (s : S) | dead | both (a b : S) | join (s : S)
  deriving Inhabited
abbrev Post := Exit → Env → H → Prop
def Qseq (K : Env → H → Prop) (Q : Post) : Post
  | .normal, σ, h => K σ h
  | x, σ, h => Q x σ h
def Qblock (id : Nat) (Q : Post) : Post
  | .exit i, σ, h => if i = id then Q .normal σ h else Q (.exit i) σ h
  | x, σ, h => Q x σ h
def Qscope (Q : Post) : Post
  | .goto _, _, _ => False
  | x, σ, h => Q x σ h
def wpS (G : Ctr) : S → Post → Env → H → Prop
  | .sts l, Q, σ, h => wpSts G l (Q .normal) (pQ Q) σ h
  | .skip, Q, σ, h => Q .normal σ h
  | .seq a b, Q, σ, h => wpS G a (Qseq (wpS G b Q) Q) σ h
  | .cond t a b, Q, σ, h => isBool (σ t) = true ∧ (tb (σ t) = true → wpS G a Q σ h) ∧ (tb (σ t) = false → wpS G b Q σ h)
  | .block id s, Q, σ, h => wpS G s (Qblock id Q) σ h
  | .loop s, Q, σ, h => ∃ (α : Type) (I : α → Env → H → Prop) (μ : α → Nat) (x : α), I x σ h ∧ ∀ x σ h, I x σ h → wpS G s (Qseq (fun σ' h' => ∃ y, I y σ' h' ∧ μ y < μ x) Q) σ h
  | .exit id, Q, σ, h => Q (.exit id) σ h
  | .ret, Q, σ, h => Q .ret σ h
  | .scope s, Q, σ, h => wpS G s (Qscope Q) σ h
  | .dead, _, _, _ => False
  | .both a b, Q, σ, h => wpS G a Q σ h ∧ wpS G b Q σ h
  | .join s, Q, σ, h => ∃ M : Env → H → Prop, wpS G s (Qseq M Q) σ h ∧ ∀ σ' h', M σ' h' → Q .normal σ' h'

/-- Statements ahead of the rest. -/
def pre (l : List St) : S → S
  | .sts m => .sts (l ++ m)
  | s => if l.isEmpty then s else .seq (.sts l) s
theorem pre_wp {G : Ctr} {Q : Post} {σ : Env} {h : H} (l : List St) (s : S) : wpS G (pre l s) Q σ h = wpSts G l (wpS G s Q) (pQ Q) σ h := by
  unfold pre
  split
  · simp only [wpS, wpSts_append]
  · split
    · rename_i hl; rw [List.isEmpty_iff.1 hl]; rfl
    · rfl
def bothL : List S → S
  | [] => .dead
  | [s] => s
  | s :: r => .both s (bothL r)
theorem bothL_wp {G : Ctr} {Q : Post} {σ : Env} {h : H} : ∀ (l : List S), wpS G (bothL l) Q σ h → ∀ s ∈ l, wpS G s Q σ h
  | [], _, s, hs => by cases hs
  | [s], hw, s', hs => by simp only [List.mem_singleton] at hs; subst hs; exact hw
  | s :: s2 :: r, hw, s', hs => by
    rcases List.mem_cons.1 hs with rfl | hs
    · exact hw.1
    · exact bothL_wp (s2 :: r) hw.2 s' hs
def allS : List (Option S) → Option (List S)
  | [] => some []
  | some s :: r => (allS r).map (s :: ·)
  | none :: _ => none
theorem allS_mem : ∀ (l : List (Option S)) (r : List S), allS l = some r → ∀ x ∈ l, ∃ s ∈ r, x = some s
  | [], _, _, x, hx => by cases hx
  | none :: _, _, h, _, _ => by cases h
  | some s :: l, r, h, x, hx => by
    simp only [allS] at h
    obtain ⟨r', h1, rfl⟩ := Option.map_eq_some_iff.1 h
    rcases List.mem_cons.1 hx with rfl | hx
    · exact ⟨s, by simp, rfl⟩
    · obtain ⟨s', h2, h3⟩ := allS_mem l r' h1 x hx
      exact ⟨s', by simp [h2], h3⟩

abbrev Tent := Nat × (Operand × List (Nat × Bool) × Option Nat)
def quietI (P : Program) (ops : Array Oper) (i : Nat) : Bool := match (ops[i]?).bind (tr P) with
  | some (.ef _ _) => false
  | some _ => true
  | none => false
def usesT (t : Nat) (x : Operand) (g : List (Nat × Bool)) : Bool := (match x with | .tmp u => u == t | _ => false) || g.any fun p => p.1 == t
/-- Which temporaries are still wanted. -/
def laterD (ops : Array Oper) (listed : Array Bool) (τ : List Tent) (t : Nat) : Bool :=
  (List.range ops.size).any (fun j => !listed.getD j true && match ops[j]? with | some o => (o.looksAt ops).contains t | none => false) || τ.any fun p => usesT t p.2.1 p.2.2.1
def trackG (lv : Nat → Bool) (δ : List Pend) (ops : Array Oper) (o : Oper) : Option (List (Nat × Bool)) := match o.dst with
  | some d => if lv d then (match o.guard with | none => some [] | _ => none) else guardOf ops δ o
  | none => none
def dstFree (d : Option Nat) (τ : List Tent) : Bool := match d with | some d => τ.all (fun p => !usesT d p.2.1 p.2.2.1) | none => true
def compD (P : Program) (lv : Nat → Bool) (N : Nat) (ops : Array Oper) : Nat → Array Bool → List Pend → List Tent → Option S
  | 0, listed, _, _ => if (Region.ready .any ops listed).isEmpty then some (.sts []) else none
  | fuel + 1, listed, δ, τ =>
    match Region.ready .any ops listed with
    | [] => some (.sts [])
    | i0 :: rs => match (i0 :: rs).find? (quietI P ops) with
      | some i => match ops[i]? with
        | none => none
        | some o => match tr P o, o.dst with
          | some k, some d => if Region.free .any ops listed i && τ.all (fun p => !usesT d p.2.1 p.2.2.1) then
              match kload k, trackG lv δ ops o with
              | some (x, n), some g => if usesT d x g then none else
                match compQ P lv N ops δ (laterD ops (listed.setIfInBounds i true) ((i, x, g, n) :: τ)) o k with
                | some (l, δ') => (compD P lv N ops fuel (listed.setIfInBounds i true) δ' ((i, x, g, n) :: τ)).map (pre l)
                | none => none
              | none, _ => match compQ P lv N ops δ (laterD ops (listed.setIfInBounds i true) τ) o k with
                | some (l, δ') => (compD P lv N ops fuel (listed.setIfInBounds i true) δ' τ).map (pre l)
                | none => none
              | _, _ => none
            else none
          | _, _ => none
      | none => (allS ((i0 :: rs).map fun i => match ops[i]? with
        | some o => match tr P o with
          | some (.ef f xs) =>
            if dstFree o.dst (τ.filter fun p => !waits (Region.before ops) p.1 i) then
              match compF P lv N ops δ (laterD ops (listed.setIfInBounds i true) (τ.filter fun p => !waits (Region.before ops) p.1 i)) ((τ.filter fun p => !waits (Region.before ops) p.1 i).map (·.2)) o f xs with
              | some (l, δ') => (compD P lv N ops fuel (listed.setIfInBounds i true) δ' (τ.filter fun p => !waits (Region.before ops) p.1 i)).map (pre l)
              | none => none
            else none
          | _ => none
        | none => none)).map bothL

/-- What is kept of the loads that were made. -/
def TR (a : Act) (w : World) : List Tent → Conds → Prop
  | [], [] => True
  | (k, x, g, n) :: τ, (k', C) :: Cs => k' = k ∧ (∃ h0, C = (fun w' => gh a g = true → sameC (a.eval x) n h0 w'.heap) ∧ (gh a g = true → sameC (a.eval x) n h0 w.heap)) ∧ TR a w τ Cs
  | _, _ => False
theorem gh_put' {g : List (Nat × Bool)} {d : Nat} {v : Value} (hg : (g.any fun p => p.1 == d) = false) : gh (a.put (some d) v) g = gh a g :=
  gh_put fun q hq he => by
    have := (List.any_eq_false.1 hg) q hq
    simp [he] at this
theorem eval_put' {x : Operand} {g : List (Nat × Bool)} {d : Option Nat} {v : Value} (hu : ∀ d', d = some d' → usesT d' x g = false) : (a.put d v).eval x = a.eval x ∧ gh (a.put d v) g = gh a g := by
  cases d with
  | none => exact ⟨rfl, rfl⟩
  | some d =>
    have := hu d rfl
    unfold usesT at this
    simp only [Bool.or_eq_false_iff] at this
    refine ⟨?_, gh_put' this.2⟩
    cases x with
    | tmp t =>
      have hne : t ≠ d := by simpa using this.1
      exact getD_put_ne hne
    | _ => rfl
theorem TR_put {d : Option Nat} {v : Value} : ∀ (τ : List Tent) (Cs : Conds), (∀ d', d = some d' → τ.all (fun p => !usesT d' p.2.1 p.2.2.1) = true) → TR a w τ Cs → TR (a.put d v) w τ Cs
  | [], [], _, h => h
  | [], _ :: _, _, h => h.elim
  | _ :: _, [], _, h => h.elim
  | (k, x, g, n) :: τ, (k', C) :: Cs, hu, h => by
    obtain ⟨h1, ⟨h0, h2, h3⟩, h4⟩ := h
    have hu' : ∀ d', d = some d' → usesT d' x g = false ∧ τ.all (fun p => !usesT d' p.2.1 p.2.2.1) = true := fun d' hd => by
      have := hu d' hd
      simp only [List.all_cons, Bool.and_eq_true] at this
      exact ⟨by simpa using this.1, this.2⟩
    obtain ⟨e1, e2⟩ := eval_put' (a := a) (x := x) (g := g) (d := d) (v := v) (fun d' hd => (hu' d' hd).1)
    refine ⟨h1, ⟨h0, ?_, ?_⟩, TR_put τ Cs (fun d' hd => (hu' d' hd).2) h4⟩
    · rw [e1, e2]; exact h2
    · rw [e1, e2]; exact h3
theorem sameC_trans {p : Value} {n : Option Nat} {h0 h1 h2 : H} (x : sameC p n h0 h1) (y : sameC p n h1 h2) : sameC p n h0 h2 := by
  unfold sameC at *
  split
  · cases n <;> simp_all
  · trivial
theorem TR_filter (i : Nat) : ∀ (τ : List Tent) (Cs : Conds), TR a w τ Cs → TR a w (τ.filter fun p => !waits (Region.before ops) p.1 i) (keepC ops i Cs)
  | [], [], h => h
  | [], _ :: _, h => h.elim
  | _ :: _, [], h => h.elim
  | (k, x, g, n) :: τ, (k', C) :: Cs, h => by
    obtain ⟨rfl, h2, h3⟩ := h
    have ih := TR_filter i τ Cs h3
    unfold keepC at ih ⊢
    simp only [List.filter_cons]
    cases hw : waits (Region.before ops) k' i with
    | true => simpa using ih
    | false => exact ⟨rfl, h2, ih⟩
theorem TR_world {w' : World} : ∀ (τ : List Tent) (Cs : Conds), TR a w τ Cs → (∀ p ∈ τ, gh a p.2.2.1 = true → w' = w ∨ sameC (a.eval p.2.1) p.2.2.2 w.heap w'.heap) → TR a w' τ Cs ∧ ∀ c ∈ Cs, c.2 w'
  | [], [], h, _ => ⟨h, fun c hc => by cases hc⟩
  | [], _ :: _, h, _ => h.elim
  | _ :: _, [], h, _ => h.elim
  | (k, x, g, n) :: τ, (k', C) :: Cs, h, hs => by
    obtain ⟨h1, ⟨h0, h2, h3⟩, h4⟩ := h
    obtain ⟨i1, i2⟩ := TR_world τ Cs h4 (fun p hp => hs p (by simp [hp]))
    have key : gh a g = true → sameC (a.eval x) n h0 w'.heap := fun hg => by
      rcases hs (k, x, g, n) (by simp) hg with rfl | hsm
      · exact h3 hg
      · exact sameC_trans (h3 hg) hsm
    refine ⟨⟨h1, ⟨h0, h2, key⟩, i1⟩, fun c hc => ?_⟩
    rcases List.mem_cons.1 hc with rfl | hc
    · simp only; rw [h2]; exact key
    · exact i2 c hc

theorem wpAnyX_triv {Q : Exit → Act → World → Prop} {act : Nat → Bool} {k : Nat} : ∀ (fuel : Nat) (listed : Array Bool) (Cs : Conds) (a : Act) (w : World), wpAnyX P ops Q act fuel listed Cs a w → wpAnyX P ops Q act fuel listed ((k, fun _ => True) :: Cs) a w
  | 0, _, _, _, _, h => h
  | fuel + 1, listed, Cs, a, w, h => by
    refine ⟨h.1, fun i hi => wpOp_mono (fun a' w' h' => ?_) (h.2 i hi)⟩
    obtain ⟨h1, h2⟩ := h'
    have hk : keepC ops i ((k, fun _ => True) :: Cs) = if waits (Region.before ops) k i then keepC ops i Cs else (k, fun _ => True) :: keepC ops i Cs := by
      unfold keepC; rw [List.filter_cons]; cases waits (Region.before ops) k i <;> simp
    refine ⟨?_, ?_⟩
    · unfold after at h1 ⊢
      rw [hk]
      split
      · rename_i ha
        rw [if_pos ha] at h1
        split
        · exact h1
        · intro c hc
          rcases List.mem_cons.1 hc with rfl | hc
          · trivial
          · exact h1 c hc
      · rename_i ha; rw [if_neg ha] at h1; exact h1
    · rw [hk]
      split
      · exact h2
      · exact wpAnyX_triv fuel _ _ _ _ h2
theorem track_ok [DS] {o : Oper} {g : List (Nat × Bool)} (R : Rel lv N a σ h δ) (ht : trackG lv δ ops o = some g) : Region.wanted o (yielded ops a.tmps) = gh a g := by
  unfold trackG at ht
  split at ht <;> try (cases ht; done)
  split at ht
  · split at ht <;> cases ht
    rename_i h0
    unfold Region.wanted; rw [h0]; rfl
  · exact (guardOf_ok R ht).2
theorem hQ_CQ [DS] {w0 : World} {Q : Exit → Env → H → Prop} {d : Option Nat} {v : Value} : ∀ c a w, CQ lv N w0 Q (.panic c) (Act.put a d v) w → CQ lv N w0 Q (.panic c) a w := by
  intro c a w ⟨h1, h2, h3⟩
  refine ⟨h1, ?_, h3⟩
  cases d <;> simpa [Act.put] using h2

theorem compD_sound [DS] (hG : GOk P G) {w0 : World} {Q : Exit → Env → H → Prop} (hsel : Region.noSelect ops = true) : ∀ (fuel : Nat) (listed : Array Bool) (δ : List Pend) (τ : List Tent) (l : S) (a : Act) (σ : Env) (w : World) (Cs : Conds),
    compD P lv N ops fuel listed δ τ = some l → DC ops listed → Rel lv N a σ w.heap δ → TR a w τ Cs → Keep w0 w → wpS G l Q σ w.heap →
    wpAnyX P ops (CQ lv N w0 Q) (fun i => !quietI P ops i) fuel listed Cs a w := by
  intro fuel
  induction fuel with
  | zero =>
    intro listed δ τ l a σ w Cs hc _ R _ hk Hw
    simp only [compD] at hc
    split at hc <;> cases hc
    rename_i hr
    exact ⟨by simpa using hr, hk, σ, R.bare, Hw⟩
  | succ fuel ih =>
    intro listed δ τ l a σ w Cs hc hdc R ht hk Hw
    simp only [compD] at hc
    split at hc
    · rename_i hr
      cases hc
      exact ⟨fun _ => ⟨hk, σ, R.bare, Hw⟩, by rw [hr]; intro i hi; cases hi⟩
    · rename_i i0 rs hr
      split at hc
      · -- a quiet one is taken first
        rename_i i hfi
        have hqi : quietI P ops i = true := List.find?_some hfi
        have hir : i ∈ Region.ready .any ops listed := by rw [hr]; exact List.mem_of_find?_eq_some hfi
        split at hc <;> try (cases hc; done)
        rename_i o ho
        split at hc <;> try (cases hc; done)
        rename_i k d htr hd
        split at hc <;> try (cases hc; done)
        rename_i hcond
        simp only [Bool.and_eq_true] at hcond
        have first := fun (C : World → Prop) (v : Value) (hy : YieldsIf P ops C o v a) (hC : C w) => wpAnyX_first (Q := CQ lv N w0 Q) (act := fun i => !quietI P ops i) (C := C) ho (by simp [hqi]) (Region.noSelect_spec hsel) hQ_CQ fuel listed Cs a w hdc
          (Region.free_spec ho hcond.1) hir hy hC
        have hdc' := hdc.set hir
        split at hc
        · rename_i x n g hkl htg
          split at hc <;> try (cases hc; done)
          rename_i hux
          split at hc <;> try (cases hc; done)
          rename_i l1 δ1 h1
          obtain ⟨l2, h2, rfl⟩ := Option.map_eq_some_iff.1 hc
          rw [pre_wp] at Hw
          obtain ⟨v, σ', hv, hu, R', K'⟩ := compQ_sound (tr_says htr) h1 R Hw
          have hwant := track_ok (ops := ops) (o := o) R htg
          have hkc : ∀ h', kcond k a w.heap h' = sameC (a.eval x) n w.heap h' := fun h' => by unfold kcond; rw [hkl]
          refine first (fun w' => gh a g = true → sameC (a.eval x) n w.heap w'.heap) v ?_ ?_ ?_
          · cases hw : Region.wanted o (yielded ops a.tmps) with
            | true => exact .inl ⟨hw, fun w' hC => (hv hw).2 w' (by rw [hkc]; exact hC (by rw [← hwant]; exact hw))⟩
            | false => exact .inr ⟨hw, hu hw⟩
          · intro hg; rw [← hkc]; exact (hv (by rw [hwant]; exact hg)).1
          · obtain ⟨e1, e2⟩ := eval_put' (a := a) (x := x) (g := g) (d := o.dst) (v := v) (fun d' hd' => by rw [hd] at hd'; cases hd'; simpa using hux)
            refine ih _ δ1 _ l2 _ σ' w _ h2 hdc' R' ⟨rfl, ⟨w.heap, ?_, ?_⟩, TR_put τ Cs (fun d' hd' => by rw [hd] at hd'; cases hd'; exact hcond.2) ht⟩ hk K'
            · rw [e1, e2]
            · rw [e1, e2]; intro hg; rw [← hkc]; exact (hv (by rw [hwant]; exact hg)).1
        · rename_i hkl
          split at hc <;> try (cases hc; done)
          rename_i l1 δ1 h1
          obtain ⟨l2, h2, rfl⟩ := Option.map_eq_some_iff.1 hc
          rw [pre_wp] at Hw
          obtain ⟨v, σ', hv, hu, R', K'⟩ := compQ_sound (tr_says htr) h1 R Hw
          refine first (fun _ => True) v ?_ trivial ?_
          · cases hw : Region.wanted o (yielded ops a.tmps) with
            | true => exact .inl ⟨hw, fun w' _ => (hv hw).2 w' (by unfold kcond; rw [hkl]; trivial)⟩
            | false => exact .inr ⟨hw, hu hw⟩
          · exact wpAnyX_triv _ _ _ _ _ (ih _ δ1 _ l2 _ σ' w _ h2 hdc' R' (TR_put τ Cs (fun d' hd' => by rw [hd] at hd'; cases hd'; exact hcond.2) ht) hk K')
        · cases hc
      · -- those that act
        rename_i hnone
        obtain ⟨ls, hls, rfl⟩ := Option.map_eq_some_iff.1 hc
        refine ⟨fun h0 => (by rw [hr] at h0; cases h0), fun i hi => ?_⟩
        have hir := hi
        rw [hr] at hi
        obtain ⟨s0, hs0, hc⟩ := allS_mem _ _ hls _ (List.mem_map.2 ⟨i, hi, rfl⟩)
        replace Hw := bothL_wp _ Hw s0 hs0
        split at hc <;> try (cases hc; done)
        rename_i o ho
        split at hc <;> try (cases hc; done)
        rename_i f xs htr
        split at hc <;> try (cases hc; done)
        rename_i hcond
        split at hc <;> try (cases hc; done)
        rename_i l1 δ1 h1
        obtain ⟨l2, h2, rfl⟩ := Option.map_eq_some_iff.1 hc
        rw [pre_wp] at Hw
        have hact : quietI P ops i = false := by unfold quietI; rw [ho]; simp [htr]
        have tf := TR_filter (ops := ops) i τ Cs ht
        have main := compF_sound (Q := CQ lv N w0 Q) (next := fun a' w' => after (fun i => !quietI P ops i) ops Cs i w w' ∧ wpAnyX P ops (CQ lv N w0 Q) (fun i => !quietI P ops i) fuel (listed.setIfInBounds i true) (keepC ops i Cs) a' w')
          hG (tr_says htr) h1 R Hw rfl (fun v w' σ' hk' R' hsm K' => by
            obtain ⟨t1, t2⟩ := TR_world (w' := w') _ _ tf (fun p hp hg => hsm p.2 (List.mem_map.2 ⟨p, hp, rfl⟩) hg)
            refine ⟨?_, ih _ δ1 _ l2 _ σ' w' _ h2 (hdc.set hir) R' (TR_put _ _ (fun d' hd' => by rw [hd'] at hcond; exact hcond) t1) (hk.trans hk') K'⟩
            unfold after
            rw [if_pos (by simp [hact])]
            exact t2)
          (fun c w' hk' hp => ⟨hk.trans hk', R.df, hp⟩)
        unfold wpOp
        rw [ho]
        simp only
        split
        · rename_i hw; rw [if_pos hw] at main; exact .inl main
        · rename_i hw; rw [if_neg hw] at main; exact main
end
end Go.Ev

namespace Go.Ev

/-! ### Code, put together -/
/-- The ways through a region meet behind it. -/
def wrapJ : S → S
  | .sts l => .sts l
  | s => .join s
def comp (P : Program) (lv : Nat → Bool) (N : Nat) : Code → Option S
  | .skip => some .skip
  | .label _ => some .skip
  | .region _ ops draw => if draw then (if Region.noSelect ops then (compD P lv N ops ops.size (Array.replicate ops.size false) [] []).map wrapJ else none)
      else (compL P lv N ops ops.toList []).map .sts
  | .seq a b => match comp P lv N a, comp P lv N b with
    | some x, some y => some (.seq x y)
    | _, _ => none
  | .cond (.tmp t) a b => if lv t then match comp P lv N a, comp P lv N b with
      | some x, some y => some (.cond t x y)
      | _, _ => none
    else none
  | .cond (.const (.bool true)) a _ => comp P lv N a
  | .cond (.const (.bool false)) _ b => comp P lv N b
  | .block id c => (comp P lv N c).map (.block id)
  | .loop c => (comp P lv N c).map .loop
  | .exit id => some (.exit id)
  | .ret => some .ret
  | .scope c => (comp P lv N c).map .scope
  | _ => some .dead

section
set_option linter.unusedVariables false
variable {P : Program} {G : Ctr} {lv : Nat → Bool} {N : Nat} {ops : Array Oper} {a : Act} {σ : Env} {h : H} {w w0 : World} {Q : Post}

theorem wp_loop_g {c : Code} {Q : Exit → Act → World → Prop} (I : Nat → Act → World → Prop) (n : Nat) (h0 : I n a w)
    (round : ∀ n a w, I n a w → c.wp P (Exit.then (fun a' w' => ∃ m, m < n ∧ I m a' w') Q) a w) : (Code.loop c).wp P Q a w := by
  intro b k cs
  have key : ∀ n a w, I n a w → ∃ e a' w', Q e a' w' ∧ Arrives P (lone (b.at a (.code c :: .inLoop c :: k)) cs w) b k cs e a' w' := by
    intro n
    induction n using Nat.strongRecOn with
    | _ n ih =>
      intro a w hI
      obtain ⟨e, a₁, w₁, hq, harr⟩ := round n a w hI b (.inLoop c :: k) cs
      cases e with
      | normal =>
        obtain ⟨m, hlt, hI₁⟩ := hq
        obtain ⟨e₂, a₂, w₂, hq₂, harr₂⟩ := ih m hlt a₁ w₁ hI₁
        exact ⟨e₂, a₂, w₂, hq₂, .of_steps (Steps.trans harr (.one step_inLoop)) harr₂⟩
      | exit id => exact ⟨_, a₁, w₁, hq, .pass (x := .inLoop c) rfl (fun _ _ => .inl (by simp)) harr⟩
      | goto l => exact ⟨_, a₁, w₁, hq, .pass (x := .inLoop c) rfl (fun _ _ => .inl (by simp)) harr⟩
      | ret => exact ⟨_, a₁, w₁, hq, .pass (x := .inLoop c) rfl (fun _ _ => .inl (by simp)) harr⟩
      | panic ch => exact ⟨_, a₁, w₁, hq, .pass (x := .inLoop c) rfl (fun _ _ => .inl (by simp)) harr⟩
      | outgrown => exact ⟨_, a₁, w₁, hq, .pass (x := .inLoop c) rfl (fun _ _ => .inl (by simp)) harr⟩
  obtain ⟨e, a', w', hq, harr⟩ := key n a w h0
  exact ⟨e, a', w', hq, .of_steps (.one step_loop) harr⟩

theorem CQ_keep [DS] {w1 : World} (hk : Keep w0 w1) {x : Exit} (hq : CQ lv N w1 Q x a w) : CQ lv N w0 Q x a w := by
  cases x <;> first | exact hq.elim | exact ⟨hk.trans hq.1, hq.2⟩

theorem comp_sound [DS] (hG : GOk P G) (hmix : P.follows .mixedOrders = true) : ∀ (c : Code) (s : S) (Q : Post) (a : Act) (σ : Env) (w w0 : World), comp P lv N c = some s → Rel lv N a σ w.heap [] → Keep w0 w → wpS G s Q σ w.heap → c.wp P (CQ lv N w0 Q) a w := by
  intro c
  induction c with
  | skip => intro s Q a σ w w0 hc R hk Hw; cases hc; exact wp_skip ⟨hk, σ, R, Hw⟩
  | label l => intro s Q a σ w w0 hc R hk Hw; cases hc; exact wp_label ⟨hk, σ, R, Hw⟩
  | exit id => intro s Q a σ w w0 hc R hk Hw; cases hc; exact wp_exit ⟨hk, σ, R, Hw⟩
  | ret => intro s Q a σ w w0 hc R hk Hw; cases hc; exact wp_ret ⟨hk, σ, R, Hw⟩
  | region id ops draw =>
    intro s Q a σ w w0 hc R hk Hw
    simp only [comp] at hc
    cases draw with
    | false =>
      simp only [Bool.false_eq_true, if_false] at hc
      obtain ⟨l, hl, rfl⟩ := Option.map_eq_some_iff.1 hc
      exact wp_region_list (compL_sound hG _ _ l a σ w hl R hk Hw)
    | true =>
      simp only [if_true] at hc
      split at hc <;> try (cases hc; done)
      rename_i hsel
      have hk' : Keep w0 { w with drawn := w.drawn + 1 } := ⟨hk.os, hk.tape, hk.output⟩
      obtain ⟨s0, hc0, rfl⟩ := Option.map_eq_some_iff.1 hc
      have main : ∀ Q' : Post, wpS G s0 Q' σ w.heap → (Code.region id ops true).wp P (CQ lv N w0 Q') a w := fun Q' Hw => by
        refine wp_region_any hmix (wpAny_of_X _ _ [] _ _ (compD_sound hG hsel _ _ [] [] s0 a σ { w with drawn := w.drawn + 1 } [] hc0 ?_ R trivial hk' Hw))
        refine ⟨by simp, fun j o hj hl => ?_⟩
        have := (Array.getElem?_eq_some_iff.1 hj).1
        simp [Array.getD_eq_getD_getElem?, this] at hl
      have join : wpS G (.join s0) Q σ w.heap → (Code.region id ops true).wp P (CQ lv N w0 Q) a w := fun ⟨M, h1, h2⟩ => by
        refine wp_mono (main _ h1) fun e a' w' hq => ?_
        cases e with
        | normal => obtain ⟨k1, σ', R', hM⟩ := hq; exact ⟨k1, σ', R', h2 _ _ hM⟩
        | _ => exact hq
      cases s0 <;> first | exact main Q Hw | exact join Hw
  | seq x y ihx ihy =>
    intro s Q a σ w w0 hc R hk Hw
    simp only [comp] at hc
    split at hc <;> cases hc
    rename_i sx sy h1 h2
    refine wp_seq (wp_mono (ihx sx _ a σ w w0 h1 R hk Hw) fun e a' w' hq => ?_)
    cases e with
    | normal => obtain ⟨hk', σ', R', hq'⟩ := hq; exact ihy sy Q a' σ' w' w0 h2 R' hk' hq'
    | _ => exact hq
  | cond c x y ihx ihy =>
    intro s Q a σ w w0 hc R hk Hw
    cases c with
    | const v =>
      cases v <;> try (cases hc; exact Hw.elim)
      rename_i b
      cases b
      · exact wp_cond_split (t := false) rfl (fun e => by cases e) (fun _ => ihy s Q a σ w w0 hc R hk Hw)
      · exact wp_cond_split (t := true) rfl (fun _ => ihx s Q a σ w w0 hc R hk Hw) (fun e => by cases e)
    | tmp t => ?_
    | _ => cases hc; exact Hw.elim
    simp only [comp] at hc
    split at hc <;> try (cases hc; done)
    rename_i hl
    split at hc <;> cases hc
    rename_i sx sy h1 h2
    obtain ⟨hb, ht, hf⟩ := Hw
    have hv : a.eval (.tmp t) = σ t := R.lvs t hl
    cases hσ : σ t <;> simp [hσ, isBool] at hb
    rename_i b
    refine wp_cond_split (t := b) (by rw [hv, hσ]) (fun e => ihx sx Q a σ w w0 h1 R hk (ht (by rw [hσ]; exact e))) (fun e => ihy sy Q a σ w w0 h2 R hk (hf (by rw [hσ]; exact e)))
  | block id c ih =>
    intro s Q a σ w w0 hc R hk Hw
    obtain ⟨s', hs, rfl⟩ := Option.map_eq_some_iff.1 hc
    refine wp_block (wp_mono (ih s' _ a σ w w0 hs R hk Hw) fun e a' w' hq => ?_)
    cases e with
    | exit i =>
      obtain ⟨hk', σ', R', hq'⟩ := hq
      simp only [Exit.inBlock]
      simp only [Qblock] at hq'
      split
      · rename_i hi; rw [if_pos hi] at hq'; exact ⟨hk', σ', R', hq'⟩
      · rename_i hi; rw [if_neg hi] at hq'; exact ⟨hk', σ', R', hq'⟩
    | _ => exact hq
  | loop c ih =>
    intro s Q a σ w w0 hc R hk Hw
    obtain ⟨s', hs, rfl⟩ := Option.map_eq_some_iff.1 hc
    obtain ⟨α, I, μ, x, h0, round⟩ := Hw
    refine wp_loop_g (fun n a w => Keep w0 w ∧ ∃ σ x, Rel lv N a σ w.heap [] ∧ μ x = n ∧ I x σ w.heap) (μ x) ⟨hk, σ, x, R, rfl, h0⟩ fun n a w ⟨hk, σ, x, R, hx, hI⟩ => ?_
    subst hx
    refine wp_mono (ih s' _ a σ w w0 hs R hk (round x σ w.heap hI)) fun e a' w' hq => ?_
    cases e with
    | normal => obtain ⟨hk', σ', R', y, hI', hlt⟩ := hq; exact ⟨μ y, hlt, hk', σ', y, R', rfl, hI'⟩
    | _ => exact hq
  | scope c ih =>
    intro s Q a σ w w0 hc R hk Hw
    obtain ⟨s', hs, rfl⟩ := Option.map_eq_some_iff.1 hc
    refine wp_scope_straight (wp_mono (ih s' _ a σ w w0 hs R hk Hw) fun e a' w' hq => ?_)
    cases e with
    | goto l => obtain ⟨_, _, _, hf⟩ := hq; exact hf
    | _ => exact hq
  | _ => intro s Q a σ w w0 hc R hk Hw; cases hc; exact Hw.elim
end
end Go.Ev

namespace Go.Ev
section
set_option linter.unusedVariables false
variable {P : Program} {G : Ctr} {lv : Nat → Bool} {N : Nat} {σ : Env} {h : H} {Q : Post}

def envOf : Nat → List Value → Env → Env
  | _, [], σ => σ
  | k, a :: r, σ => envOf (k + 1) r (upd σ k a)
def env0 : Env := fun _ => undef
theorem envOf_get : ∀ (k : Nat) (l : List Value) (σ : Env) (i : Nat), envOf k l σ i = if i < k then σ i else if i < k + l.length then l.getD (i - k) undef else σ i
  | k, [], σ, i => by simp [envOf]; intro h1 h2; omega
  | k, a :: r, σ, i => by
    simp only [envOf]
    rw [envOf_get]
    by_cases h1 : i < k
    · simp [h1, show i < k + 1 by omega, upd, show i ≠ k by omega]
    · by_cases h2 : i = k
      · subst h2; simp [upd]
      · have h3 : ¬ i < k + 1 := by omega
        rw [if_neg h3, if_neg h1]
        have e : i - k = (i - (k + 1)) + 1 := by omega
        simp only [List.length_cons]
        by_cases h4 : i < k + 1 + r.length
        · rw [if_pos h4, if_pos (by omega), e]; rfl
        · rw [if_neg h4, if_neg (by omega)]; simp [upd, h2]

/-! ### Results -/
abbrev Res := List (Option Chk × E)
def resE (P : Program) (lv : Nat → Bool) : List ResultVar → Option Res
  | [] => some []
  | .tmp t :: r => if lv t then (resE P lv r).map ((none, .t t) :: ·) else none
  | .cell a t :: r => if lv a then match aggT P t, sizeT P t, resE P lv r with
      | some true, some n, some l => some ((some (.c1 (.ldn n) (.t a)), .o1 (.ldn n) (.t a)) :: l)
      | some false, some _, some l => some ((some (.c1 .ld1 (.t a)), .o1 .ld1 (.t a)) :: l)
      | _, _, _ => none
    else none
def one : List Value → Value
  | [v] => v
  | l => .tuple l.toArray
def resOk : Res → Env → H → Prop
  | [], _, _ => True
  | (none, _) :: r, σ, h => resOk r σ h
  | (some c, _) :: r, σ, h => chkP c σ h ∧ resOk r σ h
def retQ (es : Res) (R : Ending → H → Prop) : Post
  | .normal, σ, h => resOk es σ h ∧ R (.returned (one (es.map fun e => val e.2 σ h))) h
  | .ret, σ, h => resOk es σ h ∧ R (.returned (one (es.map fun e => val e.2 σ h))) h
  | .panic c, _, h => R (.panicked c) h
  | _, _, _ => False
def resOne (a : Act) : ResultVar → Sem Value
  | .tmp t => pure (a.tmps.getD t undef)
  | .cell b t => do loadVar t (← asAddr (a.tmps.getD b undef))
theorem res_run [DS] {a : Act} {w : World} (R : Rel lv N a σ w.heap []) : ∀ (rs : List ResultVar) (es : Res), resE P lv rs = some es → resOk es σ w.heap →
    (rs.mapM (resOne a)).run P w = .ok (es.map fun e => val e.2 σ w.heap) w
  | [], es, h, _ => by cases h; rfl
  | .tmp t :: r, es, h, hok => by
    simp only [resE] at h
    split at h <;> try (cases h; done)
    rename_i hl
    obtain ⟨l, hr, rfl⟩ := Option.map_eq_some_iff.1 h
    have ih := res_run R r l hr hok
    simp only [List.mapM_cons, resOne, Sem.run_bind, Sem.run_pure, Result.andThen_ok, ih, List.map_cons, val, R.lvs t hl]
  | .cell b t :: r, es, h, hok => by
    simp only [resE] at h
    split at h <;> try (cases h; done)
    rename_i hl
    split at h <;> cases h
    · rename_i n l h1 h2 h3
      have ih := res_run R r l h3 hok.2
      have hs := hok.1
      simp only [chkP, val, s1] at hs
      split at hs <;> try (exact hs.elim)
      rename_i b' o' hx
      have hld := run_loadCells (P := P) (w := w) ⟨b', o', none⟩ n (fun j => hv w.heap b' (o' + j)) (fun j hj => by rw [add0, cell_hc]; exact hc_some (by omega))
      simp only [List.mapM_cons, resOne, Sem.run_bind, Sem.run_pure, Result.andThen_ok, ih, List.map_cons, val, R.lvs b hl, hx, asAddr, loadVar, agg h1, siz h2, if_true, hld, v1]
      rfl
    · rename_i n l h1 h2 h3
      have ih := res_run R r l h3 hok.2
      have hs := hok.1
      simp only [chkP, val, s1] at hs
      split at hs <;> try (exact hs.elim)
      rename_i b' o' hx
      have := hc_some hs
      simp [List.mapM_cons, resOne, ih, val, R.lvs b hl, hx, asAddr, loadVar, agg h1, v1, cell_hc, this]
theorem res_ok [DS] {fn : Func} {a : Act} {w : World} {es : Res} (R : Rel lv N a σ w.heap []) (hr : resE P lv fn.results.toList = some es) (hok : resOk es σ w.heap) :
    (results fn a.tmps).run P w = .ok (one (es.map fun e => val e.2 σ w.heap)) w := by
  have h1 := res_run R _ _ hr hok
  have e1 : results fn a.tmps = (do let vs ← fn.results.toList.toArray.mapM (resOne a); pure (if h : vs.size = 1 then vs[0] else .tuple vs)) := rfl
  rw [e1]
  simp only [List.mapM_toArray, Sem.run_bind, Sem.run_map, h1, Result.andThen_ok, Sem.run_pure]
  congr 1
  generalize (es.map fun e => val e.2 σ w.heap) = l
  cases l with
  | nil => rfl
  | cons x r => cases r <;> simp [one]

end
section
set_option linter.unusedVariables false
variable {P : Program} {G : Ctr} {lv : Nat → Bool} {N : Nat} {σ : Env} {h : H} {Q : Post}
/-- A function's contract, from its small statements. -/
theorem hc_of {f : FuncId} {fn : Func} {s : S} {es : Res} {args : List Value} {R : Ending → H → Prop} (hmix : P.follows .mixedOrders = true) (hG : GOk P G) (hf : P.funcs[f]? = some fn)
    (hc : fn.body.bind (comp P lv fn.ntmps) = some s) (hr : resE P lv fn.results.toList = some es) (hn : args.length ≤ fn.ntmps)
    (Hw : wpS G s (retQ es R) (envOf 0 args env0) h) : HC P f args h R := by
  letI : DS := ⟨[]⟩
  intro w hw
  subst hw
  obtain ⟨c, hb, hc⟩ := Option.bind_eq_some_iff.1 hc
  have R0 : Rel lv fn.ntmps { tmps := args.toArray ++ Array.replicate (fn.ntmps - args.toArray.size) undef, defers := [] } (envOf 0 args env0) w.heap [] := by
    refine ⟨fun i _ => ?_, by simp; omega, rfl, fun _ _ hf => (by cases hf), fun _ _ hf => (by cases hf), fun _ _ hf => (by cases hf), fun _ _ hf => (by cases hf), by simp⟩
    rw [envOf_get]
    simp only [Nat.not_lt_zero, if_false, Nat.zero_add, Nat.sub_zero, env0]
    rw [Array.getD_eq_getD_getElem?, Array.getElem?_append]
    simp only [List.size_toArray, List.getElem?_toArray]
    split
    · rw [List.getD_eq_getElem?_getD]
    · simp only [Array.getElem?_replicate]
      split <;> rfl
  refine calls_of_wp hf hb (wp_mono (comp_sound hG hmix c s _ _ _ w w hc R0 (Keep.refl w) Hw) fun e a' w' hq => ?_)
  cases e with
  | normal => obtain ⟨hk, σ', R', hok, hR⟩ := hq; exact ⟨(show a'.defers = [] from R'.df), _, res_ok R' hr hok, hk, hR⟩
  | ret => obtain ⟨hk, σ', R', hok, hR⟩ := hq; exact ⟨(show a'.defers = [] from R'.df), _, res_ok R' hr hok, hk, hR⟩
  | panic c => obtain ⟨hk, hd, hR⟩ := hq; exact ⟨(show a'.defers = [] from hd), hk, hR⟩
  | exit i => obtain ⟨_, _, _, hf⟩ := hq; exact hf.elim
  | goto l => obtain ⟨_, _, _, hf⟩ := hq; exact hf.elim
  | outgrown => exact hq.elim

/-! ### Rules -/

theorem wpS_loop {α : Type} {s : S} (I : α → Env → H → Prop) (μ : α → Nat) (x : α) (h0 : I x σ h)
    (round : ∀ x σ h, I x σ h → wpS G s (Qseq (fun σ' h' => ∃ y, I y σ' h' ∧ μ y < μ x) Q) σ h) : wpS G (.loop s) Q σ h := ⟨α, I, μ, x, h0, round⟩
end
end Go.Ev

namespace Go.Ev
section
set_option linter.unusedVariables false
variable {P : Program} {G : Ctr} {σ : Env} {h : H} {Q : Post} {R : Ending → H → Prop}
theorem w_sts {l : List St} : wpS G (.sts l) Q σ h = wpSts G l (Q .normal) (pQ Q) σ h := (rfl)
theorem w_skip : wpS G .skip Q σ h = Q .normal σ h := (rfl)
theorem w_seq {a b : S} : wpS G (.seq a b) Q σ h = wpS G a (Qseq (wpS G b Q) Q) σ h := (rfl)
theorem e_ite {c : Prop} [Decidable c] {a b : Prop} : (if c then a else b) = ((c → a) ∧ (¬ c → b)) := by
  by_cases h : c <;> simp [h]
theorem w_cond {t : Nat} {a b : S} : wpS G (.cond t a b) Q σ h = (isBool (σ t) = true ∧ if tb (σ t) = true then wpS G a Q σ h else wpS G b Q σ h) := by
  rw [e_ite, Bool.not_eq_true]; rfl
theorem w_join {s : S} (M : Env → H → Prop) (hs : wpS G s (Qseq M Q) σ h) (hM : ∀ σ' h', M σ' h' → Q .normal σ' h') : wpS G (.join s) Q σ h := ⟨M, hs, hM⟩
/-- The ways go on each for itself. -/
theorem w_join0 {s : S} (hs : wpS G s (Qseq (Q .normal) Q) σ h) : wpS G (.join s) Q σ h := ⟨_, hs, fun _ _ h => h⟩
theorem w_block {id : Nat} {s : S} : wpS G (.block id s) Q σ h = wpS G s (Qblock id Q) σ h := (rfl)
theorem w_exit {id : Nat} : wpS G (.exit id) Q σ h = Q (.exit id) σ h := (rfl)
theorem w_ret : wpS G .ret Q σ h = Q .ret σ h := (rfl)
theorem w_scope {s : S} : wpS G (.scope s) Q σ h = wpS G s (Qscope Q) σ h := (rfl)
theorem w_nil {K : Env → H → Prop} {KP : List PanicEntry → H → Prop} : wpSts G [] K KP σ h = K σ h := (rfl)
theorem w_set {K : Env → H → Prop} {KP : List PanicEntry → H → Prop} {d : Nat} {e : E} {r : List St} : wpSts G (.set d e :: r) K KP σ h = wpSts G r K KP (upd σ d (val e σ h)) h := (rfl)
theorem w_chk {K : Env → H → Prop} {KP : List PanicEntry → H → Prop} {gs : Gs} {c : Chk} {r : List St} : wpSts G (.chk gs c :: r) K KP σ h = ((if gsOk gs σ h = true then chkP c σ h else True) ∧ wpSts G r K KP σ h) := by
  rw [e_ite]; simp [wpSts, wpSt]
/-- What acts, ahead of the rest of the statements. -/
def effS (G : Ctr) (f : F) (d : Option Nat) (st : Stab) (r : List St) (K : Env → H → Prop) (KP : List PanicEntry → H → Prop) (vs : List Value) (σ : Env) (h : H) : Prop :=
  fpre G f vs h (fun v h' => stabP st σ h h' ∧ wpSts G r K KP (updo σ d v) h') KP
theorem w_eff {K : Env → H → Prop} {KP : List PanicEntry → H → Prop} {d : Option Nat} {f : F} {xs : List E} {st : Stab} {r : List St} : wpSts G (.eff [] d f xs st :: r) K KP σ h = effS G f d st r K KP (xs.map fun e => val e σ h) σ h := by
  simp [wpSts, wpSt, gsOk, effS]
theorem w_effg {K : Env → H → Prop} {KP : List PanicEntry → H → Prop} {d : Option Nat} {f : F} {xs : List E} {st : Stab} {r : List St} {g : E × Bool} {gs : Gs} : wpSts G (.eff (g :: gs) d f xs st :: r) K KP σ h =
   (if gsOk (g :: gs) σ h = true then effS G f d st r K KP (xs.map fun e => val e σ h) σ h else wpSts G r K KP (updo σ d undef) h) := by
  rw [e_ite, Bool.not_eq_true]; rfl
theorem q_seq_n {K : Env → H → Prop} : Qseq K Q .normal σ h = K σ h := (rfl)
theorem q_seq_x {K : Env → H → Prop} {i : Nat} : Qseq K Q (.exit i) σ h = Q (.exit i) σ h := (rfl)
theorem q_seq_r {K : Env → H → Prop} : Qseq K Q .ret σ h = Q .ret σ h := (rfl)
theorem q_seq_p {K : Env → H → Prop} {c : List PanicEntry} : Qseq K Q (.panic c) σ h = Q (.panic c) σ h := (rfl)
theorem q_blk_n {id : Nat} : Qblock id Q .normal σ h = Q .normal σ h := (rfl)
theorem q_blk_x {id i : Nat} : Qblock id Q (.exit i) σ h = if i = id then Q .normal σ h else Q (.exit i) σ h := (rfl)
theorem q_blk_r {id : Nat} : Qblock id Q .ret σ h = Q .ret σ h := (rfl)
theorem q_blk_p {id : Nat} {c : List PanicEntry} : Qblock id Q (.panic c) σ h = Q (.panic c) σ h := (rfl)
theorem q_sc_n : Qscope Q .normal σ h = Q .normal σ h := (rfl)
theorem q_sc_x {i : Nat} : Qscope Q (.exit i) σ h = Q (.exit i) σ h := (rfl)
theorem q_sc_r : Qscope Q .ret σ h = Q .ret σ h := (rfl)
theorem q_sc_p {c : List PanicEntry} : Qscope Q (.panic c) σ h = Q (.panic c) σ h := (rfl)
theorem q_ret_n {es : Res} : retQ es R .normal σ h = (resOk es σ h ∧ R (.returned (one (es.map fun e => val e.2 σ h))) h) := (rfl)
theorem q_ret_r {es : Res} : retQ es R .ret σ h = (resOk es σ h ∧ R (.returned (one (es.map fun e => val e.2 σ h))) h) := (rfl)
theorem q_ret_p {es : Res} {c : List PanicEntry} : retQ es R (.panic c) σ h = R (.panicked c) h := (rfl)
theorem q_ret_x {es : Res} {i : Nat} : retQ es R (.exit i) σ h = False := (rfl)
theorem upd_get {d i : Nat} {v : Value} : upd σ d v i = if i = d then v else σ i := rfl
theorem pick_or {a b : Bool} : (if a = true then (.bool true : Value) else .bool b) = .bool (a || b) := by cases a <;> rfl
theorem pick_and {a b : Bool} : (if a = true then (.bool b : Value) else .bool false) = .bool (a && b) := by cases a <;> rfl
theorem bl_lit (l : List UInt8) : bl (.string ⟨l.toArray⟩) = l := rfl
theorem str_eta (s : ByteArray) : (.string s : Value) = str s.data.toList := rfl
theorem str_inj (a b : List UInt8) : (str a = str b) = (a = b) := by
  unfold str; simp
/-- The wrap goes where the number fits. -/
theorem wr64 {n : Int} (h1 : -9223372036854775808 ≤ n) (h2 : n ≤ 9223372036854775807) : IntKind.i64.wrap n = n := by
  rw [IntWalk.i64_left]; exact IntWalk.wrap64_in n ⟨h1, h2⟩
theorem e_tb (b : Bool) : tb (.bool b) = b := (rfl)
theorem e_ti (k : IntKind) (n : Int) : ti (.int k n) = n := (rfl)
theorem e_tk (k : IntKind) (n : Int) : tk (.int k n) = k := (rfl)
theorem e_isInt (k : IntKind) (n : Int) : isInt (.int k n) = true := (rfl)
theorem e_isBool (b : Bool) : isBool (.bool b) = true := (rfl)
theorem e_isStr (l : List UInt8) : isStr (str l) = true := (rfl)
theorem e_bl (l : List UInt8) : bl (str l) = l := (rfl)
theorem e_isBt (b : Bool) : isB (.bool b) true = b := by cases b <;> rfl
theorem e_isBf (b : Bool) : isB (.bool b) false = !b := by cases b <;> rfl
theorem e_gs0 {σ : Env} {h : H} : gsOk [] σ h = true := (rfl)
theorem e_gs1 {σ : Env} {h : H} {e : E} {b : Bool} {g : Gs} : gsOk ((e, b) :: g) σ h = (isB (val e σ h) b && gsOk g σ h) := (rfl)
theorem e_nilck {h : H} {a : Addr} : s1 .nilck (.pointer (some a)) h = True := (rfl)
theorem e_fldc {h : H} {a : Addr} {n : Nat} : s1 (.fld n) (.pointer (some a)) h = True := (rfl)
theorem e_fld {h : H} {b o n : Nat} : v1 (.fld n) (.pointer (some ⟨b, o, none⟩)) h = .pointer (some ⟨b, o + n, none⟩) := by simp [v1, add0]
theorem e_ld1c {h : H} {b o : Nat} : s1 .ld1 (.pointer (some ⟨b, o, none⟩)) h = (o < hsz h b) := (rfl)
theorem e_ldnc {h : H} {b o n : Nat} : s1 (.ldn n) (.pointer (some ⟨b, o, none⟩)) h = (o + n ≤ hsz h b) := (rfl)
theorem e_ld1 {h : H} {b o : Nat} : v1 .ld1 (.pointer (some ⟨b, o, none⟩)) h = hv h b o := (rfl)
theorem e_ldn {h : H} {b o n : Nat} : v1 (.ldn n) (.pointer (some ⟨b, o, none⟩)) h = .agg (hvs h b o n).toArray := (rfl)
theorem e_notc {h : H} (b : Bool) : s1 .not (.bool b) h = True := by simp [s1, isBool]
theorem e_not {h : H} (b : Bool) : v1 .not (.bool b) h = .bool !b := (rfl)
theorem e_negc {h : H} (k : IntKind) (n : Int) : s1 .neg (.int k n) h = True := by simp [s1, isInt]
theorem e_neg {h : H} (k : IntKind) (n : Int) : v1 .neg (.int k n) h = .int k (k.wrap (0 - n)) := (rfl)
theorem e_lensc {h : H} (l : List UInt8) : s1 .lens (str l) h = True := by simp [s1]
theorem e_lens {h : H} (l : List UInt8) : v1 .lens (str l) h = .int .i64 l.length := (rfl)
theorem e_lenc {h : H} (a : Option Addr) (n c : Nat) : s1 .len (.slice a n c) h = True := by simp [s1, isSl]
theorem e_len {h : H} (a : Option Addr) (n c : Nat) : v1 .len (.slice a n c) h = .int .i64 n := (rfl)
theorem e_extc {h : H} (vs : Array Value) (i : Nat) : s1 (.ext i) (.tuple vs) h = (i < vs.size) := (rfl)
theorem e_ext {h : H} (vs : Array Value) (i : Nat) : v1 (.ext i) (.tuple vs) h = vs.getD i undef := (rfl)
theorem e_partc {h : H} (cs : Array Value) (o : Nat) : s1 (.part o) (.agg cs) h = (o < cs.size) := (rfl)
theorem e_part {h : H} (cs : Array Value) (o : Nat) : v1 (.part o) (.agg cs) h = cs.getD o undef := (rfl)
theorem e_partnc {h : H} (cs : Array Value) (o n : Nat) : s1 (.partn o n) (.agg cs) h = True := (rfl)
theorem e_partn {h : H} (cs : Array Value) (o n : Nat) : v1 (.partn o n) (.agg cs) h = .agg (cs.extract o (o + n)) := (rfl)
theorem e_convc {h : H} (j k : IntKind) (n : Int) : s1 (.conv j) (.int k n) h = True := by simp [s1, isInt]
theorem e_conv {h : H} (j k : IntKind) (n : Int) : v1 (.conv j) (.int k n) h = .int j (j.wrap n) := (rfl)
theorem e_eqlc {h : H} (k : IntKind) (a b : Int) : s2 (.bin .eql) (.int k a) (.int k b) h = True := by simp [s2, isInt, tk, isCmp]
theorem e_eql {h : H} (k : IntKind) (a b : Int) : v2 (.bin .eql) (.int k a) (.int k b) h = .bool (decide (a = b)) := (rfl)
theorem e_neqc {h : H} (k : IntKind) (a b : Int) : s2 (.bin .neq) (.int k a) (.int k b) h = True := by simp [s2, isInt, tk, isCmp]
theorem e_neq {h : H} (k : IntKind) (a b : Int) : v2 (.bin .neq) (.int k a) (.int k b) h = .bool (!decide (a = b)) := (rfl)
theorem e_lssc {h : H} (k : IntKind) (a b : Int) : s2 (.bin .lss) (.int k a) (.int k b) h = True := by simp [s2, isInt, tk, isCmp]
theorem e_lss {h : H} (k : IntKind) (a b : Int) : v2 (.bin .lss) (.int k a) (.int k b) h = .bool (decide (a < b)) := (rfl)
theorem e_leqc {h : H} (k : IntKind) (a b : Int) : s2 (.bin .leq) (.int k a) (.int k b) h = True := by simp [s2, isInt, tk, isCmp]
theorem e_leq {h : H} (k : IntKind) (a b : Int) : v2 (.bin .leq) (.int k a) (.int k b) h = .bool (decide (a ≤ b)) := (rfl)
theorem e_gtrc {h : H} (k : IntKind) (a b : Int) : s2 (.bin .gtr) (.int k a) (.int k b) h = True := by simp [s2, isInt, tk, isCmp]
theorem e_gtr {h : H} (k : IntKind) (a b : Int) : v2 (.bin .gtr) (.int k a) (.int k b) h = .bool (decide (b < a)) := (rfl)
theorem e_geqc {h : H} (k : IntKind) (a b : Int) : s2 (.bin .geq) (.int k a) (.int k b) h = True := by simp [s2, isInt, tk, isCmp]
theorem e_geq {h : H} (k : IntKind) (a b : Int) : v2 (.bin .geq) (.int k a) (.int k b) h = .bool (decide (b ≤ a)) := (rfl)
theorem e_addc {h : H} (k : IntKind) (a b : Int) : s2 (.bin .add) (.int k a) (.int k b) h = True := by simp [s2, isInt, tk, isCmp, isArith]
theorem e_add {h : H} (k : IntKind) (a b : Int) : v2 (.bin .add) (.int k a) (.int k b) h = .int k (k.wrap (a + b)) := (rfl)
theorem e_subc {h : H} (k : IntKind) (a b : Int) : s2 (.bin .sub) (.int k a) (.int k b) h = True := by simp [s2, isInt, tk, isCmp, isArith]
theorem e_sub {h : H} (k : IntKind) (a b : Int) : v2 (.bin .sub) (.int k a) (.int k b) h = .int k (k.wrap (a - b)) := (rfl)
theorem e_mulc {h : H} (k : IntKind) (a b : Int) : s2 (.bin .mul) (.int k a) (.int k b) h = True := by simp [s2, isInt, tk, isCmp, isArith]
theorem e_mul {h : H} (k : IntKind) (a b : Int) : v2 (.bin .mul) (.int k a) (.int k b) h = .int k (k.wrap (a * b)) := (rfl)
theorem e_quoc {h : H} (k : IntKind) (a b : Int) : s2 (.bin .quo) (.int k a) (.int k b) h = (b ≠ 0) := by simp [s2, isInt, tk, isCmp, isArith, ti]
theorem e_quo {h : H} (k : IntKind) (a b : Int) : v2 (.bin .quo) (.int k a) (.int k b) h = .int k (k.wrap (a.tdiv b)) := (rfl)
theorem e_remc {h : H} (k : IntKind) (a b : Int) : s2 (.bin .rem) (.int k a) (.int k b) h = (b ≠ 0) := by simp [s2, isInt, tk, isCmp, isArith, ti]
theorem e_rem {h : H} (k : IntKind) (a b : Int) : v2 (.bin .rem) (.int k a) (.int k b) h = .int k (a.tmod b) := (rfl)
theorem e_seqlc {h : H} (a b : List UInt8) : s2 (.bin .eql) (str a) (str b) h = True := by simp [s2, str, isStr, isCmp]
theorem e_seql {h : H} (a b : List UInt8) : v2 (.bin .eql) (str a) (str b) h = .bool (decide (a = b)) := (rfl)
theorem e_sneqc {h : H} (a b : List UInt8) : s2 (.bin .neq) (str a) (str b) h = True := by simp [s2, str, isStr, isCmp]
theorem e_sneq {h : H} (a b : List UInt8) : v2 (.bin .neq) (str a) (str b) h = .bool (!decide (a = b)) := (rfl)
theorem e_slssc {h : H} (a b : List UInt8) : s2 (.bin .lss) (str a) (str b) h = True := by simp [s2, str, isStr, isCmp]
theorem e_slss {h : H} (a b : List UInt8) : v2 (.bin .lss) (str a) (str b) h = .bool (Op.bytesLess a b) := (rfl)
theorem e_sleqc {h : H} (a b : List UInt8) : s2 (.bin .leq) (str a) (str b) h = True := by simp [s2, str, isStr, isCmp]
theorem e_sleq {h : H} (a b : List UInt8) : v2 (.bin .leq) (str a) (str b) h = .bool (Op.bytesLess a b || decide (a = b)) := (rfl)
theorem e_sgtrc {h : H} (a b : List UInt8) : s2 (.bin .gtr) (str a) (str b) h = True := by simp [s2, str, isStr, isCmp]
theorem e_sgtr {h : H} (a b : List UInt8) : v2 (.bin .gtr) (str a) (str b) h = .bool (!(Op.bytesLess a b || decide (a = b))) := (rfl)
theorem e_sgeqc {h : H} (a b : List UInt8) : s2 (.bin .geq) (str a) (str b) h = True := by simp [s2, str, isStr, isCmp]
theorem e_sgeq {h : H} (a b : List UInt8) : v2 (.bin .geq) (str a) (str b) h = .bool (!Op.bytesLess a b) := (rfl)
theorem e_saddc {h : H} (a b : List UInt8) : s2 (.bin .add) (str a) (str b) h = (a.length + b.length ≤ 9223372036854775807) := by simp [s2, str, isStr, isCmp, bl]
theorem e_sadd {h : H} (a b : List UInt8) : v2 (.bin .add) (str a) (str b) h = str (a ++ b) := (rfl)
theorem e_eqbc {h : H} (n a b : Bool) : s2 (.eqb n) (.bool a) (.bool b) h = True := by simp [s2, isBool]
theorem e_eqb {h : H} (a b : Bool) : v2 (.eqb false) (.bool a) (.bool b) h = .bool (decide (a = b)) := (rfl)
theorem e_neb {h : H} (a b : Bool) : v2 (.eqb true) (.bool a) (.bool b) h = .bool (!decide (a = b)) := (rfl)
theorem e_idxSc {h : H} (l : List UInt8) (k : IntKind) (i : Int) : s2 .idxS (str l) (.int k i) h = (0 ≤ i ∧ i < l.length) := by simp [s2, isInt, ti]
theorem e_idxS {h : H} (l : List UInt8) (k : IntKind) (i : Int) : v2 .idxS (str l) (.int k i) h = .int .u8 (l.getD i.toNat 0).toNat := (rfl)
theorem e_idxAc {h : H} (m : Nat) (a : Addr) (n c : Nat) (k : IntKind) (i : Int) : s2 (.idxA m) (.slice (some a) n c) (.int k i) h = (0 ≤ i ∧ i < n) := by simp [s2, isInt, ti]
theorem e_idxA {h : H} (m b o : Nat) (n c : Nat) (k : IntKind) (i : Int) : v2 (.idxA m) (.slice (some ⟨b, o, none⟩) n c) (.int k i) h = .pointer (some ⟨b, o + i.toNat * m, none⟩) := by simp [v2, ti, add0]
theorem e_idxAn {h : H} (m : Nat) (n c : Nat) (i : Value) : s2 (.idxA m) (.slice none n c) i h = False := (rfl)
theorem e_putc {h : H} (cs : Array Value) (o n : Nat) (v : Value) : s2 (.put o n) (.agg cs) v h = (v.cells.size = n ∧ o + n ≤ cs.size) := (rfl)
theorem e_put {h : H} (cs : Array Value) (o n : Nat) (v : Value) : v2 (.put o n) (.agg cs) v h = .agg (putv cs o v) := (rfl)
theorem e_subLoc {h : H} (l : List UInt8) (k : IntKind) (i : Int) : s2 .subLo (str l) (.int k i) h = (0 ≤ i ∧ i ≤ l.length) := by simp [s2, isInt, ti]
theorem e_subLo {h : H} (l : List UInt8) (k : IntKind) (i : Int) : v2 .subLo (str l) (.int k i) h = str (l.drop i.toNat) := (rfl)
theorem e_subHic {h : H} (l : List UInt8) (k : IntKind) (i : Int) : s2 .subHi (str l) (.int k i) h = (0 ≤ i ∧ i ≤ l.length) := by simp [s2, isInt, ti]
theorem e_subHi {h : H} (l : List UInt8) (k : IntKind) (i : Int) : v2 .subHi (str l) (.int k i) h = str (l.take i.toNat) := (rfl)
theorem e_sub3c {h : H} (l : List UInt8) (k k' : IntKind) (i j : Int) : s3 .sub (str l) (.int k i) (.int k' j) h = (0 ≤ i ∧ i ≤ j ∧ j ≤ l.length) := by simp [s3, isInt, ti]
theorem e_sub3 {h : H} (l : List UInt8) (k k' : IntKind) (i j : Int) : v3 .sub (str l) (.int k i) (.int k' j) h = str ((l.take j.toNat).drop i.toNat) := (rfl)
theorem e_pickc {h : H} (c : Bool) (a b : Value) : s3 .pick (.bool c) a b h = True := by simp [s3, isBool]
theorem e_pickt {h : H} (a b : Value) : v3 .pick (.bool true) a b h = a := (rfl)
theorem e_pickf {h : H} (a b : Value) : v3 .pick (.bool false) a b h = b := (rfl)
theorem e_por {h : H} (c b : Bool) : v3 .pick (.bool c) (.bool true) (.bool b) h = .bool (c || b) := by cases c <;> rfl
theorem e_pand {h : H} (c b : Bool) : v3 .pick (.bool c) (.bool b) (.bool false) h = .bool (c && b) := by cases c <;> rfl
theorem e_cutLoc {h : H} (m : Nat) (a : Option Addr) (n c : Nat) (k : IntKind) (i : Int) : s2 (.cutLo m) (.slice a n c) (.int k i) h = (0 ≤ i ∧ i ≤ n) := by simp [s2, isInt, ti]
theorem e_cutHic {h : H} (m : Nat) (a : Option Addr) (n c : Nat) (k : IntKind) (i : Int) : s2 (.cutHi m) (.slice a n c) (.int k i) h = (0 ≤ i ∧ i ≤ c) := by simp [s2, isInt, ti]
theorem e_cutHi {h : H} (m : Nat) (a : Option Addr) (n c : Nat) (k : IntKind) (i : Int) : v2 (.cutHi m) (.slice a n c) (.int k i) h = .slice a i.toNat c := (rfl)
theorem e_updo {σ : Env} {d : Nat} {v : Value} : updo σ (some d) v = upd σ d v := (rfl)
theorem e_updn {σ : Env} {v : Value} : updo σ none v = σ := (rfl)
theorem e_stab0 {σ : Env} {h h' : H} : stabP [] σ h h' = True := by simp [stabP]
theorem e_stab1 {σ : Env} {h h' : H} {p : Gs × E × Option Nat} {l : Stab} : stabP (p :: l) σ h h' = ((gsOk p.1 σ h = true → sameC (val p.2.1 σ h) p.2.2 h h') ∧ stabP l σ h h') := by simp [stabP]
theorem e_same1 {h h' : H} {b o : Nat} : sameC (.pointer (some ⟨b, o, none⟩)) none h h' = (o < hsz h' b ∧ hv h' b o = hv h b o) := (rfl)
theorem e_samen {h h' : H} {b o n : Nat} : sameC (.pointer (some ⟨b, o, none⟩)) (some n) h h' = (o + n ≤ hsz h' b ∧ hvs h' b o n = hvs h b o n) := (rfl)
theorem e_env0 {k : Nat} {σ : Env} : envOf k [] σ = σ := (rfl)
theorem e_env1 {k : Nat} {a : Value} {l : List Value} {σ : Env} : envOf k (a :: l) σ = envOf (k + 1) l (upd σ k a) := (rfl)
theorem e_res0 {σ : Env} {h : H} : resOk [] σ h = True := (rfl)
theorem e_resn {e : E} {l : Res} {σ : Env} {h : H} : resOk ((none, e) :: l) σ h = resOk l σ h := (rfl)
theorem e_ress {c : Chk} {e : E} {l : Res} {σ : Env} {h : H} : resOk ((some c, e) :: l) σ h = (chkP c σ h ∧ resOk l σ h) := (rfl)
theorem e_one1 {v : Value} : one [v] = v := (rfl)
theorem e_one0 : one [] = .tuple #[] := (rfl)
theorem e_one2 {a b : Value} {l : List Value} : one (a :: b :: l) = .tuple (a :: b :: l).toArray := (rfl)
theorem e_call {G : Ctr} {d : Option Nat} {st : Stab} {r : List St} {K : Env → H → Prop} {KP : List PanicEntry → H → Prop} {σ : Env} {h : H} {f : FuncId} {vs : List Value} : effS G (.call f) d st r K KP vs σ h = G f vs h (fun v h' => stabP st σ h h' ∧ wpSts G r K KP (updo σ d v) h') KP := (rfl)
theorem e_box {G : Ctr} {d : Option Nat} {st : Stab} {r : List St} {K : Env → H → Prop} {KP : List PanicEntry → H → Prop} {σ : Env} {h : H} {t : TypeId} {v : Value} : effS G (.box t) d st r K KP [v] σ h = (stabP st σ h (h.push (.cells v.cells t)) ∧ wpSts G r K KP (updo σ d (.pointer (some ⟨h.size, 0, none⟩))) (h.push (.cells v.cells t))) := (rfl)
theorem e_alloc {G : Ctr} {d : Option Nat} {st : Stab} {r : List St} {K : Env → H → Prop} {KP : List PanicEntry → H → Prop} {σ : Env} {h : H} {t : TypeId} {z : Array Value} : effS G (.alloc t z) d st r K KP [] σ h = (stabP st σ h (h.push (.cells z t)) ∧ wpSts G r K KP (updo σ d (.pointer (some ⟨h.size, 0, none⟩))) (h.push (.cells z t))) := (rfl)
theorem e_store {G : Ctr} {d : Option Nat} {st : Stab} {r : List St} {K : Env → H → Prop} {KP : List PanicEntry → H → Prop} {σ : Env} {h : H} {n b o : Nat} {v : Value} : effS G (.store n) d st r K KP [.pointer (some ⟨b, o, none⟩), v] σ h = (v.cells.size = n ∧ o + n ≤ hsz h b ∧ (o + n ≤ (hfr h b).1 ∨ (hfr h b).2 ≤ o) ∧ v.cells.toList.all okCell = true ∧ stabP st σ h (hsets h b o v.cells.toList) ∧ wpSts G r K KP (updo σ d undef) (hsets h b o v.cells.toList)) := (rfl)
theorem e_pnc {G : Ctr} {d : Option Nat} {st : Stab} {r : List St} {K : Env → H → Prop} {KP : List PanicEntry → H → Prop} {σ : Env} {h : H} {t : TypeId} {v : Value} : effS G .pnc d st r K KP [.iface t v] σ h = KP [{ v := .iface t v, recovered := false }] h := (rfl)
theorem e_ck {K : Value → H → Prop} {KP : List PanicEntry → H → Prop} {v : Value} {h : H} : callK K KP (.returned v) h = K v h := (rfl)
theorem e_cp {K : Value → H → Prop} {KP : List PanicEntry → H → Prop} {c : List PanicEntry} {h : H} : callK K KP (.panicked c) h = KP c h := (rfl)
theorem e_pq {Q : Post} {c : List PanicEntry} {h : H} : pQ Q c h = Q (.panic c) (fun _ => undef) h := (rfl)

def cbP (n : Nat) (σ : Env) (h : H) : List (Nat × Nat × E) → Prop
  | [] => True
  | (o, l, x) :: r => (val x σ h).cells.size = l ∧ o + l ≤ n ∧ cbP n σ h r
theorem e_cb0 {n : Nat} {σ : Env} {h : H} : cbP n σ h [] = True := (rfl)
theorem e_cb1 {n o l : Nat} {σ : Env} {h : H} {x : E} {r : List (Nat × Nat × E)} : cbP n σ h ((o, l, x) :: r) = ((val x σ h).cells.size = l ∧ o + l ≤ n ∧ cbP n σ h r) := (rfl)
theorem e_chkb {n : Nat} {ps : List (Nat × Nat × E)} {σ : Env} {h : H} : chkP (.cb n ps) σ h = cbP n σ h ps := by
  induction ps with
  | nil => simp [chkP, cbP]
  | cons p r ih => obtain ⟨o, l, x⟩ := p; simp only [chkP] at ih; simp only [chkP, cbP, List.forall_mem_cons, ← ih, and_assoc]
theorem e_chk1 {q : Q1} {a : E} {σ : Env} {h : H} : chkP (.c1 q a) σ h = s1 q (val a σ h) h := (rfl)
theorem e_chk2 {q : Q2} {a b : E} {σ : Env} {h : H} : chkP (.c2 q a b) σ h = s2 q (val a σ h) (val b σ h) h := (rfl)
theorem e_chk3 {q : Q3} {a b c : E} {σ : Env} {h : H} : chkP (.c3 q a b c) σ h = s3 q (val a σ h) (val b σ h) (val c σ h) h := (rfl)
/-! ### Rows of cells as lists -/
theorem l_extc {h : H} (l : List Value) (i : Nat) : s1 (.ext i) (.tuple l.toArray) h = (i < l.length) := by simp [s1]
theorem l_ext {h : H} (l : List Value) (i : Nat) : v1 (.ext i) (.tuple l.toArray) h = l.getD i undef := by simp [v1, List.getD_eq_getElem?_getD]
theorem l_partc {h : H} (l : List Value) (i : Nat) : s1 (.part i) (.agg l.toArray) h = (i < l.length) := by simp [s1]
theorem l_part {h : H} (l : List Value) (i : Nat) : v1 (.part i) (.agg l.toArray) h = l.getD i undef := by simp [v1, List.getD_eq_getElem?_getD]
theorem l_partn {h : H} (l : List Value) (o n : Nat) : v1 (.partn o n) (.agg l.toArray) h = .agg ((l.drop o).take n).toArray := by
  simp only [v1, List.extract_toArray, List.extract_eq_take_drop, Nat.add_sub_cancel_left]
/-- m laid into l from place o on. -/
def putL : List Value → Nat → List Value → List Value
  | l, _, [] => l
  | l, o, v :: r => putL (l.set o v) (o + 1) r
theorem foldl_putL (o : Nat) : ∀ (m : List Value) (k : Nat) (l : List Value), (m.zipIdx k).foldl (fun (cs : Array Value) p => cs.setIfInBounds (o + p.2) p.1) l.toArray = (putL l (o + k) m).toArray
  | [], _, _ => rfl
  | v :: r, k, l => by
    simp only [List.zipIdx_cons, List.foldl_cons, List.setIfInBounds_toArray, putL]
    exact foldl_putL o r (k + 1) _
theorem putv_agg (l m : List Value) (o : Nat) : putv l.toArray o (.agg m.toArray) = (putL l o m).toArray := by
  unfold putv
  show (m.toArray.zipIdx).foldl _ _ = _
  rw [← Array.foldl_toList, Array.toList_zipIdx]
  exact foldl_putL o m 0 l
theorem putv_one {v : Value} (hv : v.cells = #[v]) (l : List Value) (o : Nat) : putv l.toArray o v = (l.set o v).toArray := by
  unfold putv; rw [hv]; simp
theorem l_put {h : H} (l m : List Value) (o n : Nat) : v2 (.put o n) (.agg l.toArray) (.agg m.toArray) h = .agg (putL l o m).toArray := by simp only [v2, putv_agg]
theorem l_putc {h : H} (l m : List Value) (o n : Nat) : s2 (.put o n) (.agg l.toArray) (.agg m.toArray) h = (m.length = n ∧ o + n ≤ l.length) := by simp [s2, Value.cells]
theorem c_int (k : IntKind) (n : Int) : (Value.int k n).cells = #[.int k n] := rfl
theorem c_bool (b : Bool) : (Value.bool b).cells = #[.bool b] := rfl
theorem c_str (l : List UInt8) : (str l).cells = #[str l] := rfl
theorem c_strm (l : List UInt8) : Value.cells.match_1 (fun _ => Array Value) (str l) (fun cs => cs) (fun v => #[v]) = #[str l] := rfl
theorem c_slice (a : Option Addr) (n c : Nat) : (Value.slice a n c).cells = #[.slice a n c] := rfl
theorem c_ptr (a : Option Addr) : (Value.pointer a).cells = #[.pointer a] := rfl
theorem c_agg (c : Array Value) : (Value.agg c).cells = c := rfl
theorem p_int {h : H} (l : List Value) (o n : Nat) (k : IntKind) (i : Int) : v2 (.put o n) (.agg l.toArray) (.int k i) h = .agg (l.set o (.int k i)).toArray := by simp only [v2, putv_one (c_int k i)]
theorem p_bool {h : H} (l : List Value) (o n : Nat) (b : Bool) : v2 (.put o n) (.agg l.toArray) (.bool b) h = .agg (l.set o (.bool b)).toArray := by simp only [v2, putv_one (c_bool b)]
theorem p_str {h : H} (l : List Value) (o n : Nat) (s : List UInt8) : v2 (.put o n) (.agg l.toArray) (str s) h = .agg (l.set o (str s)).toArray := by simp only [v2, putv_one (c_str s)]
theorem p_slice {h : H} (l : List Value) (o n : Nat) (a : Option Addr) (m c : Nat) : v2 (.put o n) (.agg l.toArray) (.slice a m c) h = .agg (l.set o (.slice a m c)).toArray := by simp only [v2, putv_one (c_slice a m c)]
theorem p_ptr {h : H} (l : List Value) (o n : Nat) (a : Option Addr) : v2 (.put o n) (.agg l.toArray) (.pointer a) h = .agg (l.set o (.pointer a)).toArray := by simp only [v2, putv_one (c_ptr a)]
theorem pc_one {h : H} (l : List Value) (o n : Nat) (v : Value) : s2 (.put o n) (.agg l.toArray) v h = (v.cells.size = n ∧ o + n ≤ l.length) := by simp [s2]
theorem k_int (k : IntKind) (n : Int) : okCell (.int k n) = true := rfl
theorem k_bool (b : Bool) : okCell (.bool b) = true := rfl
theorem k_str (l : List UInt8) : okCell (str l) = true := rfl
theorem k_slice (a : Option Addr) (n c : Nat) : okCell (.slice a n c) = true := rfl
theorem k_ptr (a : Option Addr) : okCell (.pointer a) = true := rfl
/-! ### The heap behind a push and a store -/
theorem hget_push {h : H} {x : Obj} {b : Nat} (hb : b ≠ h.size) : (h.push x)[b]? = h[b]? := by rw [Array.getElem?_push, if_neg hb]
theorem hget_pushe {h : H} {x : Obj} : (h.push x)[h.size]? = some x := by simp
theorem e_hvp {h : H} {x : Obj} {b o : Nat} (hb : b < h.size) : hv (h.push x) b o = hv h b o := by unfold hv hc; rw [hget_push (by omega)]
theorem e_hszp {h : H} {x : Obj} {b : Nat} (hb : b < h.size) : hsz (h.push x) b = hsz h b := by unfold hsz; rw [hget_push (by omega)]
theorem e_hfrp {h : H} {x : Obj} {b : Nat} (hb : b < h.size) : hfr (h.push x) b = hfr h b := by unfold hfr; rw [hget_push (by omega)]
theorem e_hvpe {h : H} {c : List Value} {t : TypeId} {f : Nat × Nat} {k o : Nat} (hk : k = h.size) : hv (h.push (.cells c.toArray t f)) k o = c.getD o undef := by
  subst hk
  unfold hv hc; rw [hget_pushe]; simp [List.getD_eq_getElem?_getD]
theorem e_hszpe {h : H} {c : List Value} {t : TypeId} {f : Nat × Nat} {k : Nat} (hk : k = h.size) : hsz (h.push (.cells c.toArray t f)) k = c.length := by subst hk; unfold hsz; rw [hget_pushe]; simp
theorem e_hfrpe {h : H} {c : Array Value} {t : TypeId} {f : Nat × Nat} {k : Nat} (hk : k = h.size) : hfr (h.push (.cells c t f)) k = f := by subst hk; unfold hfr; rw [hget_pushe]
theorem e_psz {h : H} {x : Obj} : (h.push x).size = h.size + 1 := by simp
theorem e_hszs {h : H} {b o k : Nat} {v : Value} : hsz (hset h b o v) k = hsz h k := hset_sz h b o v k
theorem e_hfrs {h : H} {b o k : Nat} {v : Value} : hfr (hset h b o v) k = hfr h k := hset_fr h b o v k
theorem e_ssz {h : H} {b o : Nat} {v : Value} : (hset h b o v).size = h.size := by simp [hset]
theorem e_hvs {h : H} {b o k i : Nat} {v : Value} (hb : o < hsz h b) : hv (hset h b o v) k i = if k = b ∧ i = o then v else hv h k i := by
  unfold hv hc
  rw [hset_get]
  by_cases hk : k = b
  · subst hk
    rw [if_pos rfl]
    unfold hsz at hb
    cases hx : h[k]? with
    | none => simp [hx] at hb
    | some x =>
      cases x <;> simp only [hx, Nat.not_lt_zero] at hb
      rename_i c e f
      simp only [Option.map_some, true_and]
      by_cases hi : i = o
      · subst hi; simp [hb]
      · rw [if_neg hi, Array.getElem?_setIfInBounds_ne (Ne.symm hi)]
  · rw [if_neg hk, if_neg (by simp [hk])]
theorem hset_again (h : H) (b o : Nat) (v u : Value) : hset (hset h b o v) b o u = hset h b o u := by
  apply Array.ext_getElem?
  intro k
  rw [hset_get, hset_get, hset_get h b o u]
  by_cases hk : k = b
  · subst hk
    simp only [if_true]
    cases h[k]? with
    | none => rfl
    | some x => cases x <;> simp [Array.setIfInBounds_setIfInBounds]
  · simp [hk, hset_get]
theorem hset_self {h : H} {b o : Nat} (hb : o < hsz h b) : hset h b o (hv h b o) = h := by
  apply Array.ext_getElem?
  intro k
  rw [hset_get]
  by_cases hk : k = b
  · subst hk
    unfold hsz at hb; unfold hv hc
    cases hx : h[k]? with
    | none => simp [hx] at hb
    | some x =>
      cases x <;> simp only [hx, Nat.not_lt_zero] at hb
      rename_i c e f
      simp only [if_true, Option.map_some, Option.some.injEq, Obj.cells.injEq, and_true]
      apply Array.ext (by simp)
      intro i h1 h2
      rw [Array.getElem_setIfInBounds (by simpa using h1)]
      by_cases hi : o = i
      · subst hi; simp [h2]
      · simp [hi]
  · simp [hk]
theorem hset_pushe (h : H) (c : List Value) (t : TypeId) (f : Nat × Nat) (k o : Nat) (v : Value) (hk : k = h.size) : hset (h.push (.cells c.toArray t f)) k o v = h.push (.cells (c.set o v).toArray t f) := by
  subst hk
  apply Array.ext_getElem?
  intro k
  rw [hset_get]
  by_cases hk : k = h.size
  · subst hk; simp
  · rw [if_neg hk, hget_push hk, hget_push hk]
theorem hset_push (h : H) (x : Obj) (b o : Nat) (v : Value) (hb : b < h.size) : hset (h.push x) b o v = (hset h b o v).push x := by
  apply Array.ext_getElem?
  intro k
  rw [hset_get]
  by_cases hk : k = b
  · subst hk
    rw [if_pos rfl, hget_push (by omega), hget_push (by simp [hset]; omega), hset_get, if_pos rfl]
  · rw [if_neg hk]
    by_cases hk2 : k = h.size
    · subst hk2
      have : h.size = (hset h b o v).size := by simp [hset]
      rw [hget_pushe]; conv => rhs; rw [this]
      rw [hget_pushe]
    · rw [hget_push hk2, hget_push (by simp [hset]; exact hk2), hset_get, if_neg hk]
theorem e_sets0 {h : H} {b o : Nat} : hsets h b o [] = h := (rfl)
theorem e_sets1 {h : H} {b o : Nat} {v : Value} {l : List Value} : hsets h b o (v :: l) = hsets (hset h b o v) b (o + 1) l := (rfl)
theorem e_sets_one {h : H} {b o : Nat} {v : Value} : hsets h b o [v] = hset h b o v := (rfl)
theorem hsets_pushe (h : H) (t : TypeId) (f : Nat × Nat) (k : Nat) (hk : k = h.size) : ∀ (c l : List Value) (o : Nat), hsets (h.push (.cells c.toArray t f)) k o l = h.push (.cells (putL c o l).toArray t f)
  | c, [], o => rfl
  | c, v :: l, o => by rw [hsets, hset_pushe h c t f k o v hk, hsets_pushe h t f k hk (c.set o v) l (o + 1)]; rfl
theorem hsets_push (x : Obj) (b : Nat) : ∀ (l : List Value) (h : H) (o : Nat), b < h.size → hsets (h.push x) b o l = (hsets h b o l).push x
  | [], h, o, _ => rfl
  | v :: l, h, o, hb => by rw [hsets, hset_push h x b o v hb, hsets_push x b l (hset h b o v) (o + 1) (by simpa [hset] using hb)]; rfl
theorem tn_add (k n : Nat) : ((k : Int) + (n : Int)).toNat = k + n := by omega
theorem tn_addl (k n : Nat) : ((k : Int) + (no_index (OfNat.ofNat n) : Int)).toNat = k + n := by
  show ((k : Int) + (n : Int)).toNat = k + n
  omega
attribute [go_sem low] e_ite
attribute [go_sem] e_pnc e_sub3c e_tb e_ti e_tk e_isInt e_isBool e_isStr e_bl e_isBt e_isBf e_gs0 e_gs1 e_nilck e_fldc e_fld e_ld1c e_ldnc e_ld1 e_ldn e_notc e_not e_negc e_neg e_lensc e_lens e_lenc e_len l_extc l_ext l_partc l_part e_partnc l_partn c_int c_bool c_str c_strm c_slice c_ptr c_agg p_int p_bool p_str p_slice p_ptr pc_one l_put putL k_int k_bool k_str k_slice k_ptr List.getD_cons_zero List.getD_cons_succ List.length_cons List.length_nil List.size_toArray List.set_cons_zero List.set_cons_succ List.drop_succ_cons List.drop_zero List.take_succ_cons List.take_zero List.all_cons List.all_nil List.length_append e_convc e_conv e_eqlc e_eql e_neqc e_neq e_lssc e_lss e_leqc e_leq e_gtrc e_gtr e_geqc e_geq e_addc e_add e_subc e_sub e_mulc e_mul e_quoc e_quo e_remc e_rem e_seqlc e_seql e_sneqc e_sneq e_slssc e_slss e_sleqc e_sleq e_sgtrc e_sgtr e_sgeqc e_sgeq e_saddc e_sadd e_eqbc e_eqb e_neb e_idxSc e_idxS e_idxAc e_idxA e_idxAn e_subLoc e_subLo e_subHic e_subHi e_subc e_sub3 e_pickc e_pickt e_pickf Bool.not_eq_true e_por e_pand e_cutLoc e_cutHic e_cutHi e_updo e_updn e_stab0 e_stab1 e_same1 e_samen e_env0 e_env1 e_res0 e_resn e_ress e_one1 e_one0 e_one2 e_box e_alloc e_store e_ck e_cp e_pq w_sts w_skip w_seq w_cond w_block w_exit w_ret w_scope w_nil w_set w_chk w_eff w_effg q_seq_n q_seq_x q_seq_r q_seq_p q_blk_n q_blk_x q_blk_r q_blk_p q_sc_n q_sc_x q_sc_r q_sc_p q_ret_n q_ret_r q_ret_p q_ret_x upd_get val e_chk1 e_chk2 e_chk3 e_chkb e_cb0 e_cb1 bl_lit str_inj hset_pushe hset_push e_hvp e_hszp e_hfrp e_hvpe e_hszpe e_hfrpe e_psz e_hszs e_hfrs e_ssz hset_again e_sets0 e_sets_one hsets_pushe hsets_push tn_add tn_addl
attribute [go_sem] false_or or_false true_or or_true Int.natCast_inj List.cons.injEq Value.int.injEq Value.bool.injEq and_assoc exists_and_left exists_eq_left' exists_eq_left exists_const Value.pointer.injEq Option.some.injEq Addr.mk.injEq true_and and_true true_implies false_and and_false implies_true if_true if_false Bool.true_and Bool.and_true Bool.false_eq_true List.map_cons List.map_nil Nat.zero_add Nat.add_zero not_false_eq_true not_true_eq_false decide_eq_true_eq decide_eq_false_iff_not Bool.not_eq_true' Bool.not_eq_false' Bool.and_eq_true Bool.or_eq_true Bool.and_eq_false_iff Bool.or_eq_false_iff Int.toNat_natCast imp_false forall_const false_implies Bool.not_true Bool.not_false eq_self ne_eq Bool.decide_eq_true
attribute [go_sem] Nat.reduceEqDiff Nat.reduceAdd Nat.reduceSub Nat.reduceMul Nat.reduceLT Nat.reduceLeDiff Int.reduceLE Int.reduceLT Int.reduceEq Int.reduceToNat Int.reduceNeg Int.reduceAdd Int.cast_ofNat_Int wr64
end
end Go.Ev
